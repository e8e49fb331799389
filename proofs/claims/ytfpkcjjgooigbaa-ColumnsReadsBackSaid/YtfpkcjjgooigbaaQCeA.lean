/-
  Chapter 20: blanks, the longest line, fitting lines, indents, rows compared.
-/
import Derived.Test.YtfpkcjjgooigbaaQCdA
namespace Go.Proofs.Ytfpkcjjgooigbaa.C
set_option linter.unusedSimpArgs false
set_option linter.unusedVariables false
set_option linter.unusedSectionVars false
open Go.Proofs.Ytfpkcjjgooigbaa.Am
open Go.Proofs.Ytfpkcjjgooigbaa.L (mixed wrap_ok I U CL CLL UCL Word clean words zeros)
set_option maxHeartbeats 8000000
theorem blanks_fn (n : Nat) (l : Word) (hn : n ≤ 100000) (hl : l.length ≤ 100000) : Am.Fn Try.prog 43 [1] [I n, CL l] (.uslc ((zeros n ++ l).map U)) := by
  refine fn_introX mixed (X := X43) c43 2 (by simp [X43]) fun Q hR hN => ?_
  have t1 : (n : Int) ≤ 140737488355328 ∧ (n : Int) ≤ 9223372036854775807 := by omega
  have b1 : n + l.length ≤ 140737488355328 := by omega
  have b3 : (0 : Int) ≤ n := by omega
  have b4 : ¬ (n : Int) < 0 := by omega
  simp [X43, t1, b1, b3, b4]
  refine hR _ _ ?_
  simp [X43]
  rintro x (⟨_, rfl⟩ | ⟨a, _, rfl⟩) <;> rfl
theorem blanks_nil (n : Nat) (hn : n ≤ 100000) : Am.Fn Try.prog 43 [1] [I n, .nils] (.uslc ((zeros n).map U)) := by
  refine fn_introX mixed (X := X43) c43 2 (by simp [X43]) fun Q hR hN => ?_
  have t1 : (n : Int) ≤ 140737488355328 ∧ (n : Int) ≤ 9223372036854775807 := by omega
  have b1 : n ≤ 140737488355328 := by omega
  have b3 : (0 : Int) ≤ n := by omega
  have b4 : ¬ (n : Int) < 0 := by omega
  simp [X43, t1, b1, b3, b4]
  refine hR _ _ ?_
  simp [X43]
theorem indents_fn (j : Nat) (hj : j ≤ 4) : Am.Fn Try.prog 42 [0, 0] [I j] (.agg [I ((4 * j : Nat) : Int), I ((4 * j + 2 : Nat) : Int)]) := by
  have w1 : IntKind.i64.wrap (4 * (j : Int)) = 4 * (j : Int) := wrap_ok (by omega) (by omega)
  have w2 : IntKind.i64.wrap (4 * (j : Int) + 2) = 4 * (j : Int) + 2 := wrap_ok (by omega) (by omega)
  refine fn_introX mixed (X := X42) c42 1 (by simp [X42]) fun Q hR hN => ?_
  simp [X42, w1, w2]
  refine hR _ _ ?_
  simp [X42]
/-- the longest of the first k -/
def LgAt (l : List Word) (k m : Nat) : Prop := m = longest (l.take k)
theorem longest_take {l : List Word} {k : Nat} (hk : k < l.length) : longest (l.take (k + 1)) = max (longest (l.take k)) l[k].length := by
  unfold longest; rw [List.take_succ_eq_append_getElem hk, List.foldl_append]; rfl
theorem longest_le : ∀ (l : List Word) (m w : Nat), l.foldl (fun m x => max m x.length) m ≤ w ↔ m ≤ w ∧ ∀ x ∈ l, x.length ≤ w
  | [], m, w => by simp
  | x :: l, m, w => by
    rw [List.foldl_cons, longest_le l]
    constructor
    · rintro ⟨h1, h2⟩
      exact ⟨by omega, fun y hy => by rcases List.mem_cons.1 hy with rfl | hy; omega; exact h2 y hy⟩
    · rintro ⟨h1, h2⟩
      have := h2 x (List.mem_cons_self ..)
      exact ⟨by omega, fun y hy => h2 y (List.mem_cons_of_mem _ hy)⟩
theorem Longest_fn (l : List Word) (hl : l.length ≤ 100000) (hr : ∀ x ∈ l, x.length ≤ 100000) : Am.Fn Try.prog 24 [0] [CLL l] (I (longest l)) := by
  refine fn_introX mixed (X := X24) c24 0 (by simp [X24]) fun Q hR hN => ?_
  simp [X24]
  refine loopX (fun (k : Nat × Nat) vs h => k.1 ≤ l.length ∧ LgAt l k.1 k.2 ∧ vs = [CLL l, .undef, I k.2, I k.1, .undef] ∧ h = []) (fun k => l.length - k.1) (0, 0) ?_ ?_
  · simp [LgAt, longest]
  · rintro ⟨k, m⟩ vs h ⟨g1, g2, rfl, rfl⟩ Q' hK hX hR'
    dsimp only at g1 g2
    by_cases hk : k < l.length
    · have hw1 : IntKind.i64.wrap ((k : Int) + 1) = ((k + 1 : Nat) : Int) := wrap_ok (by omega) (by omega)
      have hn : LgAt l (k + 1) (max m l[k].length) := by unfold LgAt at g2 ⊢; rw [longest_take hk, g2]
      have hmx : ∀ [inst : Decidable (m < l[k].length)], (if m < l[k].length then (l[k].length : Int) else (m : Int)) = ((max m l[k].length : Nat) : Int) := by intro _; split <;> omega
      generalize max m l[k].length = m' at hn hmx
      simp [hk, hw1, hmx]
      refine hK (k + 1, m') _ _ (by dsimp only; omega) ?_
      simp [hn]; omega
    · obtain rfl : k = l.length := by omega
      unfold LgAt at g2
      rw [List.take_length] at g2
      simp
      refine hX _ _ _ ?_
      simp
      refine hR _ _ ?_
      simp [X24, g2]
theorem fit_fn (l : List Word) (w : Nat) (hl : l.length ≤ 100000) : Am.Fn Try.prog 40 [0] [CLL l, I w] (.bool (decide (longest l ≤ w))) := by
  refine fn_introX mixed (X := X40) c40 0 (by simp [X40]) fun Q hR hN => ?_
  have hlg := longest_le l 0 w
  change longest l ≤ w ↔ _ at hlg
  simp [X40]
  refine loopX (fun (k : Nat) vs h => k ≤ l.length ∧ (∀ (j : Nat) (hj : j < l.length), j < k → l[j].length ≤ w) ∧ vs = [.undef, I w, .undef, .undef, CLL l, I l.length, I k, .undef, .undef] ∧ h = []) (fun k => l.length - k) 0 ?_ ?_
  · simp
  · rintro k vs h ⟨g1, g2, rfl, rfl⟩ Q' hK hX hR'
    by_cases hk : k < l.length
    · have hw1 : IntKind.i64.wrap ((k : Int) + 1) = ((k + 1 : Nat) : Int) := wrap_ok (by omega) (by omega)
      by_cases hx : w < l[k].length
      · have : ¬ longest l ≤ w := fun h => by have := (hlg.1 h).2 _ (List.getElem_mem hk); omega
        simp [hk, hx]
        refine hR' _ _ ?_
        simp
        refine hR _ _ ?_
        simp [X40]; omega
      · simp [hk, hx, hw1]
        refine hK (k + 1) _ _ (by omega) ?_
        simp
        refine ⟨by omega, fun j hj hjk => ?_⟩
        by_cases hjk' : j < k
        · exact g2 j hj hjk'
        · obtain rfl : j = k := by omega
          omega
    · obtain rfl : k = l.length := by omega
      have : longest l ≤ w := hlg.2 ⟨Nat.zero_le _, fun x hx => by obtain ⟨j, hj, rfl⟩ := List.getElem_of_mem hx; exact g2 j hj hj⟩
      simp
      refine hX _ _ _ ?_
      simp
      refine hR _ _ ?_
      simp [X40, this]
theorem SameRows_fn (a b : List Row) (ha : a.length ≤ 100000) (hr : ∀ r ∈ a, r.length ≤ maxLen ∧ ∀ x ∈ r, x.length ≤ maxLen) : Am.Fn Try.prog 14 [0] [RWS a, RWS b] (.bool (decide (a = b))) := by
  refine fn_introX mixed (X := X14) c14 0 (by simp [X14]) fun Q hR hN => ?_
  by_cases hl : a.length = b.length
  · simp [X14, hl]
    refine loopX (fun (k : Nat) vs h => k ≤ a.length ∧ a.take k = b.take k ∧ vs = [RWS a, RWS b, .undef, I k, .undef, .undef, .undef] ∧ h = []) (fun k => a.length - k) 0 ?_ ?_
    · simp
    · rintro k vs h ⟨g1, g2, rfl, rfl⟩ Q' hK hX hR'
      by_cases hk : k < a.length
      · have hk' : k < b.length := hl ▸ hk
        have hS := L.Same_fn a[k] b[k] (hr _ (List.getElem_mem hk)).1 (hr _ (List.getElem_mem hk)).2
        have hw1 : IntKind.i64.wrap ((k : Int) + 1) = ((k + 1 : Nat) : Int) := wrap_ok (by omega) (by omega)
        simp [hk, hk']
        refine call_of hS ?_
        by_cases he : a[k] = b[k]
        · have : (a[k] == b[k]) = true := by simp [he]
          rw [this]
          simp [hw1]
          refine hK (k + 1) _ _ (by omega) ?_
          simp
          exact ⟨by omega, by rw [List.take_succ_eq_append_getElem hk, List.take_succ_eq_append_getElem hk', g2, he]⟩
        · have : (a[k] == b[k]) = false := by simp [he]
          rw [this]
          simp
          refine hR' _ _ ?_
          simp
          refine hR _ _ ?_
          simp [X14]
          rintro rfl; exact he rfl
      · obtain rfl : k = a.length := by omega
        rw [List.take_length, List.take_of_length_le (by omega)] at g2
        simp
        refine hX _ _ _ ?_
        simp
        refine hR _ _ ?_
        simp [X14, g2]
  · simp [X14, hl]
    refine hR _ _ ?_
    simp [X14]
    rintro rfl; exact hl rfl
end Go.Proofs.Ytfpkcjjgooigbaa.C
