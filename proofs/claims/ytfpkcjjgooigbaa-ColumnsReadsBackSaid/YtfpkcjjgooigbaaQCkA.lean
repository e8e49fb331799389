/-
  Chapter 20: results compared.
-/
import Derived.Test.YtfpkcjjgooigbaaQCjA
namespace Go.Proofs.Ytfpkcjjgooigbaa.C
set_option linter.unusedSimpArgs false
set_option linter.unusedVariables false
set_option linter.unusedSectionVars false
open Go.Proofs.Ytfpkcjjgooigbaa.Am
open Go.Proofs.Ytfpkcjjgooigbaa.L (mixed wrap_ok I U CL CLL UCL Word clean words zeros)
set_option maxHeartbeats 8000000
def sameR (a b : Res) : Bool := decide (a.form = b.form) && decide (a.e = b.e) && (a.L == b.L)
theorem sameR_self (a : Res) : sameR a a = true := by simp [sameR]
theorem Same_fn (a b : Res) (ha : a.L.length ≤ maxLen) (hx : ∀ r ∈ a.L, r.length ≤ maxLen) : Am.Fn Try.prog 10 [0] [resPV .agg a, resPV .agg b] (.bool (sameR a b)) := by
  have hS := L.Same_fn a.L b.L ha hx
  refine fn_introX mixed (X := X10) c10 2 (by simp [X10]) fun Q hR hN => ?_
  by_cases h1 : a.form = b.form
  · by_cases h2 : a.e = b.e
    · simp [X10, h1, h2]
      refine call_of hS ?_
      simp
      refine hR _ _ ?_
      simp [X10, sameR, h1, h2]
    · simp [X10, h1, h2]
      refine hR _ _ ?_
      simp [X10, sameR, h1, h2]
  · simp [X10, h1]
    refine hR _ _ ?_
    simp [X10, sameR, h1]
end Go.Proofs.Ytfpkcjjgooigbaa.C
