/-
  Chapter 20: the base table.
-/
import Derived.Test.YtfpkcjjgooigbaaQClA
namespace Go.Proofs.Ytfpkcjjgooigbaa.C
set_option linter.unusedSimpArgs false
set_option linter.unusedVariables false
set_option linter.unusedSectionVars false
open Go.Proofs.Ytfpkcjjgooigbaa.Am
open Go.Proofs.Ytfpkcjjgooigbaa.L (mixed wrap_ok I U CL CLL UCL Word clean words zeros)
set_option maxHeartbeats 8000000
/-- a rule -/
abbrev rule (s : ByteArray) (c : Word) (a b : Int) : PV := .agg [.str s, CL c, U 63, U 63, I a, I b]
theorem simple_fn (s : ByteArray) (c : Word) (a b : Int) : Am.Fn Try.prog 32 [0, 1, 0, 0, 0, 0] [.str s, CL c, .agg [I a, I b]] (rule s c a b) := by
  refine fn_introX mixed (X := X32) c32 2 (by simp [X32]) fun Q hR hN => ?_
  simp [X32]
  refine hR _ _ ?_
  simp [X32]
def rules0 : List PV := [rule ⟨#[97]⟩ [1] 0 0, rule ⟨#[98]⟩ [3] 0 0, rule ⟨#[99]⟩ [9] 0 0, rule ⟨#[32]⟩ [0] 0 0]
theorem letters_fn : Am.Fn Try.prog 30 [6] [] (.uslc rules0) := by
  refine fn_introX mixed (X := X30) c30 6 (by simp [X30]) fun Q hR hN => ?_
  simp [X30]
  refine call_of (simple_fn ⟨#[97]⟩ [1] 0 0) ?_
  simp
  refine call_of (simple_fn ⟨#[98]⟩ [3] 0 0) ?_
  simp
  refine call_of (simple_fn ⟨#[99]⟩ [9] 0 0) ?_
  simp
  refine call_of (simple_fn ⟨#[32]⟩ [0] 0 0) ?_
  simp
  refine hR _ _ ?_
  simp [X30, rules0]
theorem Base0_fn : Am.Fn Try.prog 17 [0, 0, 6] [.int .u8 0] (.agg [I 1, U 1, .uslc rules0]) := by
  have w0 : IntKind.u8.wrap 0 = 0 := rfl
  refine fn_introX mixed (X := X17) c17 42 (by simp [X17]) fun Q hR hN => ?_
  simp [X17]
  refine call_of letters_fn ?_
  have hn : (∀ x, x ∈ rules0 → noRefE x = true) = True := eq_true (by intro x hx; simp [rules0] at hx; rcases hx with rfl | rfl | rfl | rfl <;> rfl)
  simp [w0, hn]
  refine hR _ _ ?_
  simp [X17, hn]
end Go.Proofs.Ytfpkcjjgooigbaa.C
