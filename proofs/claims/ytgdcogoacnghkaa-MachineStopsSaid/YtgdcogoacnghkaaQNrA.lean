/-
  Chapter 27: grids that are new.
-/
import Derived.Test.YtgdcogoacnghkaaQNqA
import Derived.Test.YtgdcogoacnghkaaQNgA
namespace Go.Proofs.Ytgdcogoacnghkaa.N
set_option linter.unusedSimpArgs false
set_option linter.unusedVariables false
set_option linter.unusedSectionVars false
open Go.Proofs.Ytgdcogoacnghkaa.Am
set_option maxHeartbeats 2000000
theorem New_fn (w h : Nat) (hw : w ≤ 200) (hh : h ≤ 200) : Am.Fn Try.prog 31 [0, 0, 1] [I w, I h] (.agg [I w, I h, .uslc ((List.replicate h (List.replicate w false)).map UW)]) := by
  refine fn_introX mixed (X := X31) c31 8 (by simp [X31]) fun Q hR hN => ?_
  have a2 : w ≤ 140737488355328 := by omega
  have a4 : (w : Int) ≤ 9223372036854775807 := by omega
  have a6 : (w : Int) ≤ 140737488355328 := by omega
  have m1 : ¬ (200 : Int) < w := by omega
  have m2 : ¬ (200 : Int) < h := by omega
  simp [X31, m1, m2]
  refine loopX (fun (k : Nat) vs h' => k ≤ h ∧ vs = [.undef, .undef, .ptr 5 1 0, .ptr 6 1 0, I k, .undef] ∧ h' = [dd, dd, dd, dd, dd, (1, .var [I 0, I 0, .nils]), (1, .var [I w, I h, .own 7 1 k 1 0 k]), (1, .arr 1 0 false (List.replicate k (UW (List.replicate w false))))]) (fun k => h - k) 0 ?_ ?_
  · simp
  · rintro k vs h' ⟨h1, rfl, rfl⟩ Q' hK hX hR'
    have hw1 : IntKind.i64.wrap ((k : Int) + 1) = ((k + 1 : Nat) : Int) := wrap_ok (by omega) (by omega)
    have hc : (k + 1) * 24 ≤ 140737488355328 := by omega
    by_cases hk : k < h
    · simp [hk, a2, a4, a6, hw1, hc]
      refine hK (k + 1) _ _ (by omega) ?_
      simp [List.replicate_succ']
      omega
    · obtain rfl : k = h := by omega
      simp
      refine hX _ _ _ ?_
      simp
      refine hR _ _ ?_
      simp [X31]
end Go.Proofs.Ytgdcogoacnghkaa.N
