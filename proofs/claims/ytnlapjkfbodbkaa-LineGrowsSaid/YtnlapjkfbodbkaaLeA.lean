/-
  Chapter 18: trimming, words, the first word that is too long.
-/
import Derived.Test.YtnlapjkfbodbkaaLdA
namespace Go.Proofs.Ytnlapjkfbodbkaa.L
set_option linter.unusedSimpArgs false
set_option linter.unusedVariables false
set_option linter.unusedSectionVars false
open Go.Proofs.Ytnlapjkfbodbkaa.Am
set_option maxHeartbeats 1000000
theorem wordsG_len : ∀ (l w : Word), (wordsG w l).length ≤ l.length + 1 ∧ ∀ v ∈ wordsG w l, v.length ≤ w.length + l.length
  | [], w => by simp [wordsG]
  | c :: r, w => by
    unfold wordsG
    split
    · have := wordsG_len r []
      refine ⟨by simp; omega, fun v hv => ?_⟩
      rcases List.mem_cons.1 hv with rfl | hv
      · simp
      · have := this.2 v hv; simp at this ⊢; omega
    · have := wordsG_len r (w ++ [c])
      refine ⟨by simp; omega, fun v hv => ?_⟩
      have := this.2 v hv; simp at this ⊢; omega
theorem trimN_le (l : Word) : ∀ n, trimN l n ≤ n
  | 0 => Nat.le_refl _
  | n + 1 => by
    unfold trimN; split
    · have := trimN_le l n; omega
    · omega
theorem trimP_fn (l : Word) (hl : l.length ≤ maxLen) : Am.Fn Try.prog 18 [1] [CL l] (CL (trim l)) := by
  refine fn_introX mixed (X := X18) c18 0 (by simp [X18]) fun Q hR hN => ?_
  simp [X18]
  refine loopX (fun (n : Nat) vs h => n ≤ l.length ∧ trimN l l.length = trimN l n ∧ vs = [CL l, .undef, I n, .undef] ∧ h = []) (fun n => n) l.length ?_ ?_
  · simp
  · rintro n vs h ⟨h1, h2, rfl, rfl⟩ Q hK hX hR'
    have fin : trimN l n = n → (trim l) = l.take n := fun e => by rw [trim, h2, e]
    cases n with
    | zero =>
      simp
      refine hX _ _ _ ?_
      simp
      refine hR _ _ ?_
      simp [X18, fin rfl]
    | succ n =>
      have hk : n < l.length := by omega
      have hg : l.getD n 0 = l[n] := by simp [List.getD, hk]
      have hw : IntKind.i64.wrap (n : Int) = n := by unfold maxLen at hl; exact wrap_ok (by omega) (by omega)
      have hp : (0 : Int) < (n : Int) + 1 := by omega
      by_cases hc : l[n] = 0
      · rw [show trimN l (n + 1) = trimN l n by rw [trimN, hg, if_pos hc]] at h2
        simp [hk, hc, hw, hp]
        refine hK n _ _ (by omega) ?_
        simp
        exact ⟨by omega, h2⟩
      · have := fin (by rw [trimN, hg, if_neg hc])
        have hp2 : (0 : Int) ≤ (n : Int) + 1 := by omega
        have hp3 : (n : Int) + 1 ≤ l.length := by omega
        simp [hk, hc, hw, hp]
        refine hX _ _ _ ?_
        simp [hp2, hp3]
        refine hR _ _ ?_
        simp [X18, this]
theorem trim_fn (l : Word) (hl : l.length ≤ 1000000) : Am.Fn Try.prog 19 [1] [CL l] (.uslc ((trim l).map U)) := by
  refine fn_introX mixed (X := X19) c19 2 (by simp [X19]) fun Q hR hN => ?_
  simp [X19]
  refine loopX (fun (n : Nat) vs h => n ≤ l.length ∧ trimN l l.length = trimN l n ∧ vs = [CL l, .undef, I n, .undef] ∧ h = [(0, .dead), (0, .dead)]) (fun n => n) l.length ?_ ?_
  · simp
  · rintro n vs h ⟨h1, h2, rfl, rfl⟩ Q hK hX hR'
    have fin : trimN l n = n → (trim l) = l.take n := fun e => by rw [trim, h2, e]
    cases n with
    | zero =>
      simp
      refine hX _ _ _ ?_
      simp
      refine hR _ _ ?_
      simp [X19, fin rfl]
    | succ n =>
      have hk : n < l.length := by omega
      have hg : l.getD n 0 = l[n] := by simp [List.getD, hk]
      have hw : IntKind.i64.wrap (n : Int) = n := wrap_ok (by omega) (by omega)
      have hp : (0 : Int) < (n : Int) + 1 := by omega
      by_cases hc : l[n] = 0
      · rw [show trimN l (n + 1) = trimN l n by rw [trimN, hg, if_pos hc]] at h2
        simp [hk, hc, hw, hp]
        refine hK n _ _ (by omega) ?_
        simp
        exact ⟨by omega, h2⟩
      · have := fin (by rw [trimN, hg, if_neg hc])
        have hp2 : (0 : Int) ≤ (n : Int) + 1 := by omega
        have hp3 : (n : Int) + 1 ≤ l.length := by omega
        obtain ⟨w, hwd, hwl⟩ : ∃ w, l.take (n + 1) = w ∧ w.length = n + 1 := ⟨_, rfl, by simp; omega⟩
        have eW : List.take (n + 1) (List.map U l) = List.map U w := by rw [← hwd, List.map_take]
        have b1 : (n + 1) ≤ 140737488355328 := by omega
        rw [this, hwd] at hR
        simp [hk, hc, hw, hp]
        refine hX _ _ _ ?_
        simp [hp2, hp3, eW, hwl, b1]
        refine hR _ _ ?_
        simp [X19, hwl]
abbrev UCL (w : Word) : PV := .uslc (w.map U)
theorem frzU : frzE ∘ U = U := rfl
theorem words_fn (l : Word) (hl : l.length ≤ 1000000) : Am.Fn Try.prog 24 [1] [CL l] (.uslc ((words l).map UCL)) := by
  refine fn_introX mixed (X := X24) c24 11 (by simp [X24]) fun Q hR hN => ?_
  simp [X24]
  refine loopX (fun (s : Nat × List Word × Word) vs h => s.1 ≤ l.length ∧ words l = s.2.1 ++ wordsG s.2.2 (l.drop s.1) ∧ s.2.1.length ≤ s.1 ∧ s.2.2.length ≤ s.1 ∧
    vs = [CL l, .undef, .own 9 1 s.2.1.length 1 0 s.2.1.length, .own 10 1 s.2.2.length 1 0 s.2.2.length, I s.1, .undef, .undef] ∧
    h = List.replicate 9 (0, .dead) ++ [(1, .arr 1 0 false (s.2.1.map UCL)), (1, .arr 1 0 false (s.2.2.map U))]) (fun s => l.length - s.1) (0, [], []) ?_ ?_
  · simp [words]
  · rintro ⟨k, W, w⟩ vs h ⟨h1, h2, h3, h4, rfl, rfl⟩ Q hK hX hR'
    dsimp only at h1 h2 h3 h4
    have b1 : (W.length + 1) * 24 ≤ 140737488355328 := by omega
    have b2 : w.length + 1 ≤ 140737488355328 := by omega
    by_cases hk : k < l.length
    · have hw : IntKind.i64.wrap ((k : Int) + 1) = (k : Int) + 1 := wrap_ok (by omega) (by omega)
      rw [List.drop_eq_getElem_cons hk, wordsG] at h2
      by_cases hc : l[k] = 0
      · rw [if_pos hc] at h2
        simp [hk, hc, hw, b1, frzU]
        refine hK (k + 1, W ++ [w], []) _ _ (by dsimp only; omega) ?_
        simp [h2]; omega
      · rw [if_neg hc] at h2
        simp [hk, hc, hw, b2]
        refine hK (k + 1, W, w ++ [l[k]]) _ _ (by dsimp only; omega) ?_
        simp [h2]; omega
    · rw [List.drop_eq_nil_of_le (by omega), wordsG] at h2
      simp [hk]
      refine hX _ _ _ ?_
      simp [b1, frzU]
      refine hR _ _ ?_
      simp [X24, h2]
theorem wordsP_fn (l : Word) (hl : l.length ≤ 1000000) : Am.Fn Try.prog 29 [1] [CL l] (.uslc ((words l).map CL)) := by
  refine fn_introX mixed (X := X29) c29 5 (by simp [X29]) fun Q hR hN => ?_
  simp [X29]
  refine loopX (fun (s : Nat × Nat × List Word) vs h => s.1 ≤ l.length ∧ s.2.1 ≤ s.1 ∧ words l = s.2.2 ++ wordsG ((l.drop s.2.1).take (s.1 - s.2.1)) (l.drop s.1) ∧ s.2.2.length ≤ s.1 ∧
    ((s.2.2 = [] ∧ vs = [CL l, .undef, .nils, I s.2.1, .undef, .undef, CL l, I l.length, I s.1, .undef, .undef] ∧ h = List.replicate 5 (0, .dead)) ∨
     (s.2.2 ≠ [] ∧ vs = [CL l, .undef, .own 4 1 s.2.2.length 1 0 s.2.2.length, I s.2.1, .undef, .undef, CL l, I l.length, I s.1, .undef, .undef] ∧ h = List.replicate 4 (0, .dead) ++ [(1, .arr 1 0 false (s.2.2.map CL))]))) (fun s => l.length - s.1) (0, 0, []) ?_ ?_
  · simp [words]
  · rintro ⟨k, f, W⟩ vs h ⟨h1, h2, h3, h4, hd⟩ Q hK hX hR'
    dsimp only at h1 h2 h3 h4 hd
    have b1 : (W.length + 1) * 24 ≤ 140737488355328 := by omega
    obtain ⟨w, hwd, hwl⟩ : ∃ w, (l.drop f).take (k - f) = w ∧ w.length = k - f := ⟨_, rfl, by simp; omega⟩
    have eW : List.take (k - f) (List.drop f (List.map U l)) = List.map U w := by rw [← hwd, List.map_take, List.map_drop]
    have q1 : (f : Int) ≤ k := by omega
    have q2 : (k : Int) ≤ l.length := by omega
    rw [hwd] at h3
    by_cases hk : k < l.length
    · have hw : IntKind.i64.wrap ((k : Int) + 1) = (k : Int) + 1 := wrap_ok (by omega) (by omega)
      rw [List.drop_eq_getElem_cons hk, wordsG] at h3
      have hgrow : (l.drop f).take (k + 1 - f) = w ++ [l[k]] := by
        rw [show k + 1 - f = k - f + 1 by omega, List.take_succ_eq_append_getElem (by simp; omega), hwd]
        simp [show f + (k - f) = k by omega]
      by_cases hc : l[k] = 0
      · rw [if_pos hc] at h3
        rcases hd with ⟨rfl, rfl, rfl⟩ | ⟨hne, rfl, rfl⟩
        · simp [hk, hc, hw, q1, q2, eW]
          refine hK (k + 1, k + 1, [w]) _ _ (by dsimp only; omega) ?_
          simp [h3]; omega
        · simp [hk, hc, hw, q1, q2, eW, b1]
          refine hK (k + 1, k + 1, W ++ [w]) _ _ (by dsimp only; omega) ?_
          simp [h3]; omega
      · rw [if_neg hc] at h3
        rcases hd with ⟨rfl, rfl, rfl⟩ | ⟨hne, rfl, rfl⟩
        · simp [hk, hc, hw]
          refine hK (k + 1, f, []) _ _ (by dsimp only; omega) ?_
          simp [h3, hgrow]; omega
        · simp [hk, hc, hw]
          refine hK (k + 1, f, W) _ _ (by dsimp only; omega) ?_
          simp [h3, hgrow, hne]; omega
    · obtain rfl : k = l.length := by omega
      rw [List.drop_length, wordsG] at h3
      rcases hd with ⟨rfl, rfl, rfl⟩ | ⟨hne, rfl, rfl⟩
      · simp
        refine hX _ _ _ ?_
        simp [q1, eW]
        refine hR _ _ ?_
        simp [X29, h3]
      · simp
        refine hX _ _ _ ?_
        simp [q1, eW, b1]
        refine hR _ _ ?_
        simp [X29, h3]
end Go.Proofs.Ytnlapjkfbodbkaa.L
