/-
  Chapter 30: the number of missing sheets does not depend on orders.
-/
import Derived.Test.YteafgpjhgefiiaaSsA
import Derived.Test.YteafgpjhgefiiaaSqP
namespace Go.Proofs.Yteafgpjhgefiiaa.S
set_option linter.unusedSimpArgs false
set_option linter.unusedVariables false
set_option linter.unusedSectionVars false
open Go.Proofs.Yteafgpjhgefiiaa.Am
set_option maxHeartbeats 4000000
theorem b8 {x : Int} (h : 0 ≤ x ∧ x ≤ 255) : 0 ≤ x ∧ x < 256 := ⟨h.1, by omega⟩
theorem kinds_ok (l : List Int) (n : Nat) (hn : n ≤ 100) : Pl (kinds (l.take n)) :=
  ⟨by simp [kinds]; omega, fun x hx => by simp only [kinds, List.mem_map] at hx; obtain ⟨y, _, rfl⟩ := hx; omega⟩
theorem turned_ok {l : List Nat} {n : Nat} (h : Pl l) : Pl (turned l n) := ⟨by have := h.n; simpa [turned] using this, fun x hx => h.k x (turned_mem hx)⟩
theorem Orders_fn (a b : List Int) (n0 n1 : Int) (ha : a.length ≤ maxLen) (hb : b.length ≤ maxLen) (hA : ∀ x ∈ a, 0 ≤ x ∧ x < 256) (hB : ∀ x ∈ b, 0 ≤ x ∧ x < 256) (h0 : 0 ≤ n0 ∧ n0 < 256) (h1 : 0 ≤ n1 ∧ n1 < 256) :
    Am.Fn Try.prog 5 [0] [BL a, BL b, .agg [U n0, U n1]] (.bool true) := by
  have cA := Plates_fn a 10 hA ha (by omega)
  have cB := Plates_fn b 10 hB hb (by omega)
  have oA := kinds_ok a 10 (by omega)
  have oB := kinds_ok b 10 (by omega)
  generalize kinds (a.take 10) = s at cA oA
  generalize kinds (b.take 10) = w at cB oB
  have e1 : miss (froms (turned s n0.toNat) w) = miss (froms s w) := by
    rw [miss_lack _ w oB.k, miss_lack s w oB.k]; exact lack_congr (fun y => turned_count s _ y) fun _ => rfl
  have e2 : miss (froms s (turned w n1.toNat)) = miss (froms s w) := by
    rw [miss_lack _ _ (turned_ok oB).k, miss_lack s w oB.k]; exact lack_congr (fun _ => rfl) fun y => turned_count w _ y
  refine fn_introX mixed (X := X5) c5 8 (by simp [X5]) fun Q hR hN => ?_
  simp [X5]
  refine call_of sanity_fn ?_
  simp
  refine call_of cA ?_
  simp
  refine call_of cB ?_
  simp [take_map]
  refine call_of (Match_fn s w oA oB) ?_
  simp [take_map]
  refine call_of (Turned_fn s n0 oA h0.1 h0.2) ?_
  simp [take_map]
  refine call_of (Match_fn _ w (turned_ok oA) oB) ?_
  simp [take_map, e1]
  refine call_of (Turned_fn w n1 oB h1.1 h1.2) ?_
  simp [take_map]
  refine call_of (Match_fn s _ oA (turned_ok oB)) ?_
  simp [take_map, e2]
  refine hR _ _ ?_
  simp [X5]
end Go.Proofs.Yteafgpjhgefiiaa.S
