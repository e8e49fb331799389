/-
  Chapter 18's functions, for chapter 20: words.
-/
import Derived.Test.YtfpkcjjgooigbaaQLdA
namespace Go.Proofs.Ytfpkcjjgooigbaa.L
set_option linter.unusedSimpArgs false
set_option linter.unusedVariables false
set_option linter.unusedSectionVars false
open Go.Proofs.Ytfpkcjjgooigbaa.Am
set_option maxHeartbeats 8000000
theorem wordsG_len : ∀ (l w : Word), (wordsG w l).length ≤ l.length + 1 ∧ ∀ v ∈ wordsG w l, v.length ≤ w.length + l.length
  | [], w => by simp [wordsG]
  | c :: r, w => by
    unfold wordsG
    split
    · have := wordsG_len r []
      refine ⟨by simp; omega, fun v hv => ?_⟩
      rcases List.mem_cons.1 hv with rfl | hv
      · simp
      · have := this.2 v hv; simp at this ⊢; omega
    · have := wordsG_len r (w ++ [c])
      refine ⟨by simp; omega, fun v hv => ?_⟩
      have := this.2 v hv; simp at this ⊢; omega
abbrev UCL (w : Word) : PV := .uslc (w.map U)
theorem frzU : frzE ∘ U = U := rfl
theorem words_fn (l : Word) (hl : l.length ≤ 1000000) : Am.Fn Try.prog 59 [1] [CL l] (.uslc ((words l).map UCL)) := by
  refine fn_introX mixed (X := X59) c59 11 (by simp [X59]) fun Q hR hN => ?_
  simp [X59]
  refine loopX (fun (s : Nat × List Word × Word) vs h => s.1 ≤ l.length ∧ words l = s.2.1 ++ wordsG s.2.2 (l.drop s.1) ∧ s.2.1.length ≤ s.1 ∧ s.2.2.length ≤ s.1 ∧
    vs = [CL l, .undef, .own 9 1 s.2.1.length 1 0 s.2.1.length, .own 10 1 s.2.2.length 1 0 s.2.2.length, I s.1, .undef, .undef] ∧
    h = List.replicate 9 (0, .dead) ++ [(1, .arr 1 0 false (s.2.1.map UCL)), (1, .arr 1 0 false (s.2.2.map U))]) (fun s => l.length - s.1) (0, [], []) ?_ ?_
  · simp [words]
  · rintro ⟨k, W, w⟩ vs h ⟨h1, h2, h3, h4, rfl, rfl⟩ Q hK hX hR'
    dsimp only at h1 h2 h3 h4
    have b1 : (W.length + 1) * 24 ≤ 140737488355328 := by omega
    have b2 : w.length + 1 ≤ 140737488355328 := by omega
    by_cases hk : k < l.length
    · have hw : IntKind.i64.wrap ((k : Int) + 1) = (k : Int) + 1 := wrap_ok (by omega) (by omega)
      rw [List.drop_eq_getElem_cons hk, wordsG] at h2
      by_cases hc : l[k] = 0
      · rw [if_pos hc] at h2
        simp [hk, hc, hw, b1, frzU]
        refine hK (k + 1, W ++ [w], []) _ _ (by dsimp only; omega) ?_
        simp [h2]; omega
      · rw [if_neg hc] at h2
        simp [hk, hc, hw, b2]
        refine hK (k + 1, W, w ++ [l[k]]) _ _ (by dsimp only; omega) ?_
        simp [h2]; omega
    · rw [List.drop_eq_nil_of_le (by omega), wordsG] at h2
      simp [hk]
      refine hX _ _ _ ?_
      simp [b1, frzU]
      refine hR _ _ ?_
      simp [X59, h2]
theorem wordsP_fn (l : Word) (hl : l.length ≤ 1000000) : Am.Fn Try.prog 54 [1] [CL l] (.uslc ((words l).map CL)) := by
  refine fn_introX mixed (X := X54) c54 5 (by simp [X54]) fun Q hR hN => ?_
  simp [X54]
  refine loopX (fun (s : Nat × Nat × List Word) vs h => s.1 ≤ l.length ∧ s.2.1 ≤ s.1 ∧ words l = s.2.2 ++ wordsG ((l.drop s.2.1).take (s.1 - s.2.1)) (l.drop s.1) ∧ s.2.2.length ≤ s.1 ∧
    ((s.2.2 = [] ∧ vs = [CL l, .undef, .nils, I s.2.1, .undef, .undef, CL l, I l.length, I s.1, .undef, .undef] ∧ h = List.replicate 5 (0, .dead)) ∨
     (s.2.2 ≠ [] ∧ vs = [CL l, .undef, .own 4 1 s.2.2.length 1 0 s.2.2.length, I s.2.1, .undef, .undef, CL l, I l.length, I s.1, .undef, .undef] ∧ h = List.replicate 4 (0, .dead) ++ [(1, .arr 1 0 false (s.2.2.map CL))]))) (fun s => l.length - s.1) (0, 0, []) ?_ ?_
  · simp [words]
  · rintro ⟨k, f, W⟩ vs h ⟨h1, h2, h3, h4, hd⟩ Q hK hX hR'
    dsimp only at h1 h2 h3 h4 hd
    have b1 : (W.length + 1) * 24 ≤ 140737488355328 := by omega
    obtain ⟨w, hwd, hwl⟩ : ∃ w, (l.drop f).take (k - f) = w ∧ w.length = k - f := ⟨_, rfl, by simp; omega⟩
    have eW : List.take (k - f) (List.drop f (List.map U l)) = List.map U w := by rw [← hwd, List.map_take, List.map_drop]
    have q1 : (f : Int) ≤ k := by omega
    have q2 : (k : Int) ≤ l.length := by omega
    rw [hwd] at h3
    by_cases hk : k < l.length
    · have hw : IntKind.i64.wrap ((k : Int) + 1) = (k : Int) + 1 := wrap_ok (by omega) (by omega)
      rw [List.drop_eq_getElem_cons hk, wordsG] at h3
      have hgrow : (l.drop f).take (k + 1 - f) = w ++ [l[k]] := by
        rw [show k + 1 - f = k - f + 1 by omega, List.take_succ_eq_append_getElem (by simp; omega), hwd]
        simp [show f + (k - f) = k by omega]
      by_cases hc : l[k] = 0
      · rw [if_pos hc] at h3
        rcases hd with ⟨rfl, rfl, rfl⟩ | ⟨hne, rfl, rfl⟩
        · simp [hk, hc, hw, q1, q2, eW]
          refine hK (k + 1, k + 1, [w]) _ _ (by dsimp only; omega) ?_
          simp [h3]; omega
        · simp [hk, hc, hw, q1, q2, eW, b1]
          refine hK (k + 1, k + 1, W ++ [w]) _ _ (by dsimp only; omega) ?_
          simp [h3]; omega
      · rw [if_neg hc] at h3
        rcases hd with ⟨rfl, rfl, rfl⟩ | ⟨hne, rfl, rfl⟩
        · simp [hk, hc, hw]
          refine hK (k + 1, f, []) _ _ (by dsimp only; omega) ?_
          simp [h3, hgrow]; omega
        · simp [hk, hc, hw]
          refine hK (k + 1, f, W) _ _ (by dsimp only; omega) ?_
          simp [h3, hgrow, hne]; omega
    · obtain rfl : k = l.length := by omega
      rw [List.drop_length, wordsG] at h3
      rcases hd with ⟨rfl, rfl, rfl⟩ | ⟨hne, rfl, rfl⟩
      · simp
        refine hX _ _ _ ?_
        simp [q1, eW]
        refine hR _ _ ?_
        simp [X54, h3]
      · simp
        refine hX _ _ _ ?_
        simp [q1, eW, b1]
        refine hR _ _ ?_
        simp [X54, h3]
theorem long_fn (l : Word) (most : Int) (hl : l.length ≤ 1000000) : Am.Fn Try.prog 58 [0] [CL l, I most] (I (longG most 0 (words l))) := by
  obtain ⟨n1, n2⟩ := wordsG_len l []
  obtain ⟨W, hW⟩ : ∃ W, words l = W := ⟨_, rfl⟩
  have hwd := words_fn l hl
  have n3 : W.length ≤ l.length + 1 := by rw [← hW]; exact n1
  have n4 : ∀ v ∈ W, v.length ≤ l.length := fun v hv => by have := n2 v (by rw [← hW] at hv; exact hv); simpa using this
  rw [hW] at hwd ⊢
  refine fn_introX mixed (X := X58) c58 2 (by simp [X58]) fun Q hR hN => ?_
  simp [X58]
  refine call_of hwd ?_
  simp
  refine loopX (fun (s : Nat × Int) vs h => s.1 ≤ W.length ∧ 0 ≤ s.2 ∧ s.2 ≤ 1000001 * s.1 ∧ longG most 0 W = longG most s.2 (W.drop s.1) ∧
    vs = [.undef, I most, .undef, .own 1 1 W.length 1 0 W.length, I s.2, I s.1, .undef, .undef] ∧ h = [(0, .dead), (1, .arr 1 0 false (W.map UCL))]) (fun s => W.length - s.1) (0, 0) ?_ ?_
  · simp
  · rintro ⟨k, a⟩ vs h ⟨h1, h2, h3, h4, rfl, rfl⟩ Q hK hX hR'
    dsimp only at h1 h2 h3 h4
    by_cases hk : k < W.length
    · have hv := n4 _ (List.getElem_mem hk)
      have hw : IntKind.i64.wrap ((k : Int) + 1) = (k : Int) + 1 := wrap_ok (by omega) (by omega)
      have hw1 : IntKind.i64.wrap ((W[k].length : Int) + 1) = (W[k].length : Int) + 1 := wrap_ok (by omega) (by omega)
      have hw2 : IntKind.i64.wrap (a + ((W[k].length : Int) + 1)) = a + W[k].length + 1 := by rw [wrap_ok (by omega) (by omega)]; omega
      rw [List.drop_eq_getElem_cons hk, longG] at h4
      by_cases t : most < (W[k].length : Int)
      · rw [if_pos t] at h4
        simp [hk, t]
        refine hR' _ _ ?_
        simp
        refine hR _ _ ?_
        simp [X58, h4]
      · rw [if_neg t] at h4
        simp [hk, t, hw, hw1, hw2]
        refine hK (k + 1, a + W[k].length + 1) _ _ (by dsimp only; omega) ?_
        simp
        exact ⟨by omega, by omega, by omega, h4⟩
    · rw [List.drop_eq_nil_of_le (by omega), longG] at h4
      simp [hk]
      refine hX _ _ _ ?_
      simp
      refine hR _ _ ?_
      simp [X58, h4]
end Go.Proofs.Ytfpkcjjgooigbaa.L
