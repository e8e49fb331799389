/-
  Chapter 30: how many are missing at least.
-/
import Derived.Test.YteafgpjhgefiiaaSgA
namespace Go.Proofs.Yteafgpjhgefiiaa.S
set_option linter.unusedSimpArgs false
set_option linter.unusedVariables false
set_option linter.unusedSectionVars false
open Go.Proofs.Yteafgpjhgefiiaa.Am
set_option maxHeartbeats 2000000
theorem missc_le (l : List Int) : miss l ≤ l.length := List.countP_le_length
theorem Short_fn (s w : List Nat) (hs : Pl s) (hw : Pl w) : Am.Fn Try.prog 20 [0] [PL s, PL w] (I (miss (froms s w))) := by
  refine fn_introX mixed (X := X20) c20 0 (by simp [X20]) fun Q hR hN => ?_
  have hl := hw.n
  simp [X20]
  refine loopX (fun (k : Nat) vs h => k ≤ w.length ∧ vs = [PL s, PL w, .undef, I (miss (froms s (w.take k))), I k, .undef, .undef] ∧ h = []) (fun k => w.length - k) 0 ?_ ?_
  · simp [froms, fromG, miss]
  · rintro k vs h ⟨h1, rfl, rfl⟩ Q hK hX hR'
    have hm := missc_le (froms s (w.take k))
    rw [froms_len] at hm
    by_cases hk : k < w.length
    · have hw1 : IntKind.i64.wrap ((k : Int) + 1) = ((k + 1 : Nat) : Int) := wrap_ok (by omega) (by omega)
      have hw2 : IntKind.i64.wrap ((miss (froms s (w.take k)) : Int) + 1) = ((miss (froms s (w.take k)) + 1 : Nat) : Int) := wrap_ok (by simp at hm ⊢; omega) (by simp at hm ⊢; omega)
      have hx := hw.k _ (List.getElem_mem hk)
      have htk : w.take (k + 1) = w.take k ++ [w[k]] := List.take_succ_eq_append_getElem hk
      have hms := miss_snoc s (w.take k) w[k]
      rw [← htk] at hms
      have hcn : (w.take (k + 1)).count w[k] = (w.take k).count w[k] + 1 := by rw [htk, List.count_append]; simp
      have hp1 : Pl (w.take (k + 1)) := ⟨by simp; omega, fun x hx => hw.k x (List.mem_of_mem_take hx)⟩
      have hC1 := Count_fn (w.take (k + 1)) w[k] hp1 hx
      rw [show PL (w.take (k + 1)) = PV.slc (List.take (k + 1) (List.map plC w)) by simp [List.map_take]] at hC1
      have hko : (k : Int) + 1 ≤ w.length := by omega
      have hk0 : (0 : Int) ≤ (k : Int) + 1 := by omega
      simp [hk, hw1, hko, hk0]
      refine call_of hC1 ?_
      simp [hk, hw1]
      refine call_of (Count_fn s w[k] hs hx) ?_
      by_cases t : s.count w[k] ≤ (w.take k).count w[k]
      · have t' : s.count w[k] < (w.take (k + 1)).count w[k] := by omega
        rw [if_pos t] at hms
        simp [t', hw1, hw2]
        refine hK (k + 1) _ _ (by omega) ?_
        simp [hms]
        omega
      · have t' : ¬ s.count w[k] < (w.take (k + 1)).count w[k] := by omega
        rw [if_neg t] at hms
        simp [t', hw1, hw2]
        refine hK (k + 1) _ _ (by omega) ?_
        simp [hms]
        omega
    · obtain rfl : k = w.length := by omega
      simp
      refine hX _ _ _ ?_
      simp
      refine hR _ _ ?_
      simp [X20]
end Go.Proofs.Yteafgpjhgefiiaa.S
