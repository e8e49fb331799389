/-
  Chapter 18: words that are too long; how lines are broken.
-/
import Derived.Test.YtnlapjkfbodbkaaLeA
namespace Go.Proofs.Ytnlapjkfbodbkaa.L
set_option linter.unusedSimpArgs false
set_option linter.unusedVariables false
set_option linter.unusedSectionVars false
open Go.Proofs.Ytnlapjkfbodbkaa.Am
set_option maxHeartbeats 2000000
theorem long_fn (l : Word) (most : Int) (hl : l.length ≤ 1000000) : Am.Fn Try.prog 22 [0] [CL l, I most] (I (longG most 0 (words l))) := by
  obtain ⟨n1, n2⟩ := wordsG_len l []
  obtain ⟨W, hW⟩ : ∃ W, words l = W := ⟨_, rfl⟩
  have hwd := words_fn l hl
  have n3 : W.length ≤ l.length + 1 := by rw [← hW]; exact n1
  have n4 : ∀ v ∈ W, v.length ≤ l.length := fun v hv => by have := n2 v (by rw [← hW] at hv; exact hv); simpa using this
  rw [hW] at hwd ⊢
  refine fn_introX mixed (X := X22) c22 2 (by simp [X22]) fun Q hR hN => ?_
  simp [X22]
  refine call_of hwd ?_
  simp
  refine loopX (fun (s : Nat × Int) vs h => s.1 ≤ W.length ∧ 0 ≤ s.2 ∧ s.2 ≤ 1000001 * s.1 ∧ longG most 0 W = longG most s.2 (W.drop s.1) ∧
    vs = [.undef, I most, .undef, .own 1 1 W.length 1 0 W.length, I s.2, I s.1, .undef, .undef] ∧ h = [(0, .dead), (1, .arr 1 0 false (W.map UCL))]) (fun s => W.length - s.1) (0, 0) ?_ ?_
  · simp
  · rintro ⟨k, a⟩ vs h ⟨h1, h2, h3, h4, rfl, rfl⟩ Q hK hX hR'
    dsimp only at h1 h2 h3 h4
    by_cases hk : k < W.length
    · have hv := n4 _ (List.getElem_mem hk)
      have hw : IntKind.i64.wrap ((k : Int) + 1) = (k : Int) + 1 := wrap_ok (by omega) (by omega)
      have hw1 : IntKind.i64.wrap ((W[k].length : Int) + 1) = (W[k].length : Int) + 1 := wrap_ok (by omega) (by omega)
      have hw2 : IntKind.i64.wrap (a + ((W[k].length : Int) + 1)) = a + W[k].length + 1 := by rw [wrap_ok (by omega) (by omega)]; omega
      rw [List.drop_eq_getElem_cons hk, longG] at h4
      by_cases t : most < (W[k].length : Int)
      · rw [if_pos t] at h4
        simp [hk, t]
        refine hR' _ _ ?_
        simp
        refine hR _ _ ?_
        simp [X22, h4]
      · rw [if_neg t] at h4
        simp [hk, t, hw, hw1, hw2]
        refine hK (k + 1, a + W[k].length + 1) _ _ (by dsimp only; omega) ?_
        simp
        exact ⟨by omega, by omega, by omega, h4⟩
    · rw [List.drop_eq_nil_of_le (by omega), longG] at h4
      simp [hk]
      refine hX _ _ _ ?_
      simp
      refine hR _ _ ?_
      simp [X22, h4]
end Go.Proofs.Ytnlapjkfbodbkaa.L
