/-
  Chapter 18: what the program's Break gives, with its errors.
-/
import Derived.Test.YtnlapjkfbodbkaaLmA
namespace Go.Proofs.Ytnlapjkfbodbkaa.L
set_option linter.unusedSimpArgs false
set_option linter.unusedVariables false
set_option linter.unusedSectionVars false
open Go.Proofs.Ytnlapjkfbodbkaa.Am
set_option maxHeartbeats 2000000
theorem breakP_fn (l : Word) (W a b : Int) (hl : l.length ≤ 1000) :
    Am.Fn Try.prog 10 [1, 0, 0] [CL l, I W, .agg [I a, I b]] (breakR .tup l W a b) := by
  have hcf := cleanP_fn l (by unfold maxLen; omega)
  by_cases t1 : W < 24
  · rw [breakR, if_pos (by omega)]
    refine fn_introX mixed (X := X10) c10 12 (by simp [X10]) fun Q hR hN => ?_
    simp [X10, t1]
    refine hR _ _ ?_
    simp [X10, errR]
  by_cases t2 : 60 < W
  · rw [breakR, if_pos (by omega)]
    refine fn_introX mixed (X := X10) c10 12 (by simp [X10]) fun Q hR hN => ?_
    simp [X10, t1, t2]
    refine hR _ _ ?_
    simp [X10, errR]
  by_cases t3 : okI a b = true
  case neg =>
    rw [breakR, if_pos (by simp [t3])]
    refine fn_introX mixed (X := X10) c10 12 (by simp [X10]) fun Q hR hN => ?_
    simp [X10, t1, t2]
    refine call_of (allowed_fn a b) ?_
    simp [t3]
    refine hR _ _ ?_
    simp [X10, errR]
  have hok := t3
  simp [okI] at t3
  obtain ⟨A, rfl⟩ : ∃ A : Nat, a = A := ⟨a.toNat, by omega⟩
  obtain ⟨B, rfl⟩ : ∃ B : Nat, b = B := ⟨b.toNat, by omega⟩
  obtain ⟨V, rfl⟩ : ∃ V : Nat, W = V := ⟨W.toNat, by omega⟩
  rw [breakR, if_neg (by simp [hok]; omega)]
  cases hc : (clean l).2 with
  | false =>
    rw [if_pos rfl]
    rw [hc] at hcf
    refine fn_introX mixed (X := X10) c10 12 (by simp [X10]) fun Q hR hN => ?_
    simp [X10, t1, t2]
    refine call_of (allowed_fn A B) ?_
    rw [hok]
    simp
    refine call_of hcf ?_
    simp
    refine hR _ _ ?_
    simp [X10, errR]
  | true =>
    rw [if_neg (by simp)]
    simpa using breakP_ok l V A B hl (by omega) (by omega) (by omega) hc
/-- the program's Join where indents are not allowed -/
theorem joinP_bad (l : List Word) (a b : Int) (h : okI a b = false) : Am.Fn Try.prog 23 [1, 0, 0] [CLL l, .agg [I a, I b]] (.tup [.nils, I 0, I 1]) := by
  refine fn_introX mixed (X := X23) c23 6 (by simp [X23]) fun Q hR hN => ?_
  simp [X23]
  refine call_of (allowed_fn a b) ?_
  rw [h]
  simp
  refine hR _ _ ?_
  simp [X23]
end Go.Proofs.Ytnlapjkfbodbkaa.L
