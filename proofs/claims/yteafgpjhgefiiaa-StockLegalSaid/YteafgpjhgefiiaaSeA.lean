/-
  Chapter 30: a plate by its number.
-/
import Derived.Test.YteafgpjhgefiiaaSdB
import Derived.Test.YteafgpjhgefiiaaSdC
namespace Go.Proofs.Yteafgpjhgefiiaa.S
set_option linter.unusedSimpArgs false
set_option linter.unusedVariables false
set_option linter.unusedSectionVars false
open Go.Proofs.Yteafgpjhgefiiaa.Am
def up (k : Nat) : List (List Bool) := dots [(0, 0), (k / 2, 1)]
def dn (k : Nat) : List (List Bool) := dots [(47 - k % 2, 0)]
/-- as a result; as read; in a list of the caller's own -/
abbrev plU (k : Nat) : PV := .agg [I 48, I 12, UR (up k), UR (dn k)]
abbrev plC (k : Nat) : PV := .agg [I 48, I 12, DT (up k), DT (dn k)]
abbrev plE (k : Nat) : PV := .agg [I 48, I 12, .uslc ((up k).map RW), .uslc ((dn k).map RW)]
theorem take_map {α β} (f : α → β) (l : List α) : List.take l.length (List.map f l) = List.map f l := List.take_of_length_le (by simp)
theorem frz_uw : (frzE ∘ fun r : List Bool => PV.uslc (r.map .bool)) = RW := rfl
theorem Plate_fn (n : Int) (h0 : 0 ≤ n) (h1 : n < 256) : Am.Fn Try.prog 23 [0, 0, 1, 1] [.int .u8 n] (plU (n.toNat % 6)) := by
  have hn := arunF_sound mixed new_run
  have hw : IntKind.i64.wrap n = n := wrap_ok (by omega) (by omega)
  have hm : n.tmod 6 = ((n.toNat % 6 : Nat) : Int) := by rw [Int.tmod_eq_emod_of_nonneg h0]; omega
  have hk : n.toNat % 6 < 6 := by omega
  generalize n.toNat % 6 = k at hm hk ⊢
  have he : k = 0 ∨ k = 1 ∨ k = 2 ∨ k = 3 ∨ k = 4 ∨ k = 5 := by omega
  refine fn_introX mixed (X := X23) c23 7 (by simp [X23]) fun Q hR hN => ?_
  simp [X23]
  refine call_of hn ?_
  simp [gridU]
  refine call_of hn ?_
  simp [gridU, hw, hm, take_map, frz_uw]
  have p0 := arunF_sound mixed plot_run0
  have p1 := arunF_sound mixed plot_run1
  have p2 := arunF_sound mixed plot_run2
  have p3 := arunF_sound mixed plot_run3
  have p4 := arunF_sound mixed plot_run4
  simp only [gridU, gridC, pts, List.map] at p0 p1 p2 p3 p4
  rcases he with rfl | rfl | rfl | rfl | rfl | rfl
  · refine call_of p0 ?_
    simp [take_map, frz_uw]
    refine call_of p3 ?_
    simp [take_map, frz_uw]
    refine hR _ _ ?_
    simp [X23, plU, up, dn]
  · refine call_of p0 ?_
    simp [take_map, frz_uw]
    refine call_of p4 ?_
    simp [take_map, frz_uw]
    refine hR _ _ ?_
    simp [X23, plU, up, dn]
  · refine call_of p1 ?_
    simp [take_map, frz_uw]
    refine call_of p3 ?_
    simp [take_map, frz_uw]
    refine hR _ _ ?_
    simp [X23, plU, up, dn]
  · refine call_of p1 ?_
    simp [take_map, frz_uw]
    refine call_of p4 ?_
    simp [take_map, frz_uw]
    refine hR _ _ ?_
    simp [X23, plU, up, dn]
  · refine call_of p2 ?_
    simp [take_map, frz_uw]
    refine call_of p3 ?_
    simp [take_map, frz_uw]
    refine hR _ _ ?_
    simp [X23, plU, up, dn]
  · refine call_of p2 ?_
    simp [take_map, frz_uw]
    refine call_of p4 ?_
    simp [take_map, frz_uw]
    refine hR _ _ ?_
    simp [X23, plU, up, dn]
end Go.Proofs.Yteafgpjhgefiiaa.S
