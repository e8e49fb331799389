/-
  Chapter 27: is a number in a list?
-/
import Derived.Test.YtgdcogoacnghkaaQNcA
namespace Go.Proofs.Ytgdcogoacnghkaa.N
set_option linter.unusedSimpArgs false
set_option linter.unusedVariables false
set_option linter.unusedSectionVars false
open Go.Proofs.Ytgdcogoacnghkaa.Am
set_option maxHeartbeats 2000000
theorem Has_fn (l : List Int) (n : Int) (hl : l.length ≤ 100000) : Am.Fn Try.prog 37 [0] [IL l, I n] (.bool (l.contains n)) := by
  refine fn_introX mixed (X := X37) c37 0 (by simp [X37]) fun Q hR hN => ?_
  simp [X37]
  refine loopX (fun (k : Nat) vs h => k ≤ l.length ∧ l.contains n = (l.drop k).contains n ∧ vs = [IL l, I n, .undef, I k, .undef, .undef] ∧ h = []) (fun k => l.length - k) 0 ?_ ?_
  · simp
  · rintro k vs h ⟨h1, h2, rfl, rfl⟩ Q' hK hX hR'
    by_cases hk : k < l.length
    · have hw1 : IntKind.i64.wrap ((k : Int) + 1) = ((k + 1 : Nat) : Int) := wrap_ok (by omega) (by omega)
      rw [List.drop_eq_getElem_cons hk, List.contains_cons] at h2
      by_cases t1 : l[k] = n
      · simp [hk, t1]
        refine hR' _ _ ?_
        simp
        refine hR _ _ ?_
        simp [X37, show n ∈ l from t1 ▸ List.getElem_mem hk]
      · have t2 : ¬ n = l[k] := fun e => t1 e.symm
        simp [hk, t1, hw1]
        refine hK (k + 1) _ _ (by omega) ?_
        simp
        exact ⟨by omega, by simpa [t2] using h2⟩
    · rw [List.drop_eq_nil_of_le (by omega)] at h2
      simp [hk]
      refine hX _ _ _ ?_
      simp
      refine hR _ _ ?_
      simp [X37, show ¬ n ∈ l from by simpa using h2]
theorem front_fn (w h : Int) (u d : List (List Bool)) : Am.Fn Try.prog 40 [0, 0, 1] [.agg [I w, I h, DT u, DT d]] (.agg [I w, I h, DT u]) := by
  refine fn_introX mixed (X := X40) c40 4 (by simp [X40]) fun Q hR hN => ?_
  simp [X40]
  refine hR _ _ ?_
  simp [X40]
theorem back_fn (w h : Int) (u d : List (List Bool)) : Am.Fn Try.prog 41 [0, 0, 1] [.agg [I w, I h, DT u, DT d]] (.agg [I w, I h, DT d]) := by
  refine fn_introX mixed (X := X41) c41 4 (by simp [X41]) fun Q hR hN => ?_
  simp [X41]
  refine hR _ _ ?_
  simp [X41]
end Go.Proofs.Ytgdcogoacnghkaa.N
