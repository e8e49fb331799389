/-
  Chapter 18's functions, for chapter 20: Break.
-/
import Derived.Test.YtfpkcjjgooigbaaQLjA
namespace Go.Proofs.Ytfpkcjjgooigbaa.L
set_option linter.unusedSimpArgs false
set_option linter.unusedVariables false
set_option linter.unusedSectionVars false
open Go.Proofs.Ytfpkcjjgooigbaa.Am
set_option maxHeartbeats 8000000
theorem breakP_ok (l : Word) (W a b : Nat) (hl : l.length ≤ 1000) (hW : 24 ≤ W ∧ W ≤ 60) (ha : a ≤ 16) (hb : b ≤ 16) (hc : (clean l).2 = true) :
    Am.Fn Try.prog 41 [1, 0, 0] [CL l, I W, .agg [I a, I b]] (if 0 ≤ longG ((W : Int) - max (a : Int) b) 0 (words l) then errR .tup (longG ((W : Int) - max (a : Int) b) 0 (words l)) 181 else .tup [.uslc ((brk W a b (words l)).map UCL), I 0, I 0]) := by
  obtain ⟨n1, n2⟩ := wordsG_len l []
  have hcf := cleanP_fn l (by unfold maxLen; omega)
  have hwf := wordsP_fn l (by omega)
  rw [hc] at hcf
  have hne : words l ≠ [] := wordsG_ne l []
  obtain ⟨ws, hws⟩ : ∃ ws, words l = ws := ⟨_, rfl⟩
  have n3 : ws.length ≤ l.length + 1 := by rw [← hws]; exact n1
  have n4 : ∀ v ∈ ws, v.length ≤ l.length := fun v hv => by have := n2 v (by rw [← hws] at hv; exact hv); simpa using this
  rw [hws] at hwf hne ⊢
  have hok : okI a b = true := by simp [okI]; omega
  have hmx : ∀ [inst : Decidable (a < b)], (if a < b then (b : Int) else (a : Int)) = max (a : Int) b := by intro _; split <;> omega
  have hsub : IntKind.i64.wrap ((W : Int) - max (a : Int) b) = (W : Int) - max (a : Int) b := wrap_ok (by omega) (by omega)
  obtain ⟨m, hm⟩ : ∃ m : Int, (W : Int) - max (a : Int) b = m := ⟨_, rfl⟩
  rw [hm] at hsub ⊢
  refine fn_introX mixed (X := X41) c41 12 (by simp [X41]) fun Q hR hN => ?_
  have t1 : ¬ (W : Int) < 24 := by omega
  have t2 : ¬ (60 : Int) < W := by omega
  simp [X41, t1, t2]
  refine call_of (allowed_fn a b) ?_
  rw [hok]
  simp
  refine call_of hcf ?_
  simp
  refine call_of hwf ?_
  simp
  have n5 : ∀ i (h : i < ws.length), ws[i].length ≤ l.length := fun i h => n4 _ (List.getElem_mem h)
  have hpos : 0 < ws.length := List.length_pos_iff.2 hne
  have hb0 : brk W a b ws = brkG W b (zeros a ++ ws[0]?.getD []) ws.tail := by
    cases ws with
    | nil => exact absurd rfl hne
    | cons => rfl
  refine loopX (fun (s : Nat × Nat) vs h => s.1 ≤ ws.length ∧ s.2 ≤ 2000 * s.1 ∧ longG m 0 ws = longG m s.2 (ws.drop s.1) ∧
      vs = [.undef, I W, .undef, .eptr 8 1 2 1 0 0, .undef, .undef, .undef, .undef, .undef, .own 9 1 ws.length 1 0 ws.length, I s.2, .undef, .undef, .undef, .undef, .undef, .own 9 1 ws.length 1 0 ws.length, I ws.length, I s.1, .undef, .undef, .undef, .undef] ∧
      h = List.replicate 8 (0, .dead) ++ [(1, .arr 1 0 false [I a, I b]), (1, .arr 1 0 false (ws.map CL)), (0, .dead), (0, .dead)]) (fun s => ws.length - s.1) (0, 0) ?_ ?_
  · simp
  · rintro ⟨k, p⟩ vs h ⟨h1, h2, h3, rfl, rfl⟩ Q1 hK hX hR'
    dsimp only at h1 h2 h3
    by_cases hk : k < ws.length
    · have hwl := n5 k hk
      rw [List.drop_eq_getElem_cons hk, longG] at h3
      have w1 : IntKind.i64.wrap ((k : Int) + 1) = (k : Int) + 1 := wrap_ok (by omega) (by omega)
      have w2 : IntKind.i64.wrap ((ws[k].length : Int) + 1) = (ws[k].length : Int) + 1 := wrap_ok (by omega) (by omega)
      have w3 : IntKind.i64.wrap ((p : Int) + ((ws[k].length : Int) + 1)) = (p : Int) + ((ws[k].length : Int) + 1) := wrap_ok (by omega) (by omega)
      by_cases t : m < (ws[k].length : Int)
      · rw [if_pos t] at h3
        simp [hk, w1, w2, w3, hmx, hsub, hm, t]
        refine hR' _ _ ?_
        simp
        refine hR _ _ ?_
        simp [X41, errR, h3]
      · rw [if_neg t] at h3
        simp [hk, w1, w2, w3, hmx, hsub, hm, t]
        refine hK (k + 1, p + ws[k].length + 1) _ _ (by dsimp only; omega) ?_
        simp [h3]
        omega
    · rw [List.drop_eq_nil_of_le (by omega), longG] at h3
      simp [hk]
      refine hX _ _ _ ?_
      simp
      refine loopX (fun (s : Nat × List Word) vs h => s.1 ≤ ws.length ∧ s.2.length ≤ s.1 ∧ (s.2 = [] → s.1 = 0) ∧ brk W a b ws = s.2 ++ brk W (if s.2 = [] then a else b) b (ws.drop s.1) ∧
        vs = [.undef, I W, .undef, .eptr 8 1 2 1 0 0, .undef, .undef, .undef, .undef, .undef, .own 9 1 ws.length 1 s.1 (ws.length - s.1), .undef, .undef, (if s.2 = [] then .nils else .own 10 1 s.2.length 1 0 s.2.length), .undef, .undef, .undef, .undef, .undef, .undef, .undef, .undef, .undef, .undef] ∧
        h = List.replicate 8 (0, .dead) ++ [(1, .arr 1 0 false [I a, I b]), (1, .arr 1 0 false (ws.map CL))] ++ (if s.2 = [] then [(0, .dead), (0, .dead)] else [(1, .arr 1 0 false (s.2.map UCL)), (0, .dead)])) (fun s => ws.length - s.1) (0, []) ?_ ?_
      · simp
      · rintro ⟨j, o⟩ vs h ⟨j1, j2, j3, j4, rfl, rfl⟩ Q2 hK2 hX2 hR2
        dsimp only at j1 j2 j3 j4
        by_cases ho : o = []
        · have hj := j3 ho
          subst ho hj
          have w1 : IntKind.i64.wrap (0 : Int) = 0 := by rfl
          simp [hpos]
          refine call_of (blanks_fn a (by omega)) ?_
          simp
          refine loopX (fun (s : Nat × Word) vs h => s.1 < ws.length ∧ s.2.length ≤ 2000 * (s.1 + 1) ∧ brk W a b ws = brkG W b (s.2 ++ ws.getD s.1 []) (ws.drop (s.1 + 1)) ∧
            vs = [.undef, I W, .undef, .eptr 8 1 2 1 0 0, .undef, .undef, .undef, .undef, .undef, .own 9 1 ws.length 1 s.1 (ws.length - s.1), .undef, .undef, .nils, .own 10 1 s.2.length 1 0 s.2.length, .undef, .undef, .undef, .undef, .undef, .undef, .undef, .undef, .undef] ∧
            h = List.replicate 8 (0, .dead) ++ [(1, .arr 1 0 false [I a, I b]), (1, .arr 1 0 false (ws.map CL)), (1, .arr 1 0 false (s.2.map U)), (0, .dead)]) (fun s => ws.length - s.1) (0, zeros a) ?_ ?_
          · simp
            exact ⟨hpos, by omega, hb0⟩
          · rintro ⟨q, c⟩ vs h ⟨q1, q2, q3, rfl, rfl⟩ Q3 hK3 hX3 hR3
            dsimp only at q1 q2 q3
            have hwl := n5 q q1
            have w1 : IntKind.i64.wrap ((c.length : Int) + 1) = (c.length : Int) + 1 := wrap_ok (by omega) (by omega)
            have b1 : c.length + ws[q].length ≤ 140737488355328 := by omega
            have et : List.take ws[q].length (List.map U ws[q]) = List.map U ws[q] := List.take_of_length_le (by simp)
            have q4 : 0 < ws.length - q := by omega
            have q5 : (1 : Int) ≤ ((ws.length - q : Nat) : Int) := by omega
            have q6 : ws.length - q - 1 = ws.length - (q + 1) := by omega
            rw [show ws.getD q [] = ws[q] by simp [q1]] at q3
            by_cases t4 : q + 1 < ws.length
            · have t5 : ¬ (ws.length - (q + 1) = 0) := by omega
              have t6 : 0 < ws.length - (q + 1) := by omega
              have hwl2 := n5 (q + 1) t4
              have w2 : IntKind.i64.wrap ((c.length : Int) + (ws[q].length : Int) + 1) = (c.length : Int) + (ws[q].length : Int) + 1 := wrap_ok (by omega) (by omega)
              have w3 : IntKind.i64.wrap ((c.length : Int) + (ws[q].length : Int) + 1 + (ws[q + 1].length : Int)) = (c.length : Int) + (ws[q].length : Int) + 1 + (ws[q + 1].length : Int) := wrap_ok (by omega) (by omega)
              have b2 : c.length + ws[q].length + 1 ≤ 140737488355328 := by omega
              rw [List.drop_eq_getElem_cons t4, brkG] at q3
              by_cases t7 : W < (c ++ ws[q]).length + 1 + ws[q + 1].length
              · have t8 : (W : Int) < (c.length : Int) + (ws[q].length : Int) + 1 + (ws[q + 1].length : Int) := by simp at t7; omega
                rw [if_pos t7] at q3
                simp [q1, b1, et, q4, q5, q6, t4, t5, t6, w2, w3, t8]
                refine hX3 _ _ _ ?_
                simp
                refine hK2 (q + 1, [c ++ ws[q]]) _ _ (by dsimp only; omega) ?_
                simp
                exact ⟨by omega, by rw [q3, List.drop_eq_getElem_cons t4]; rfl⟩
              · have t8 : ¬ (W : Int) < (c.length : Int) + (ws[q].length : Int) + 1 + (ws[q + 1].length : Int) := by simp at t7; omega
                rw [if_neg t7] at q3
                simp [q1, b1, et, q4, q5, q6, t4, t5, t6, w2, w3, t8, b2]
                refine hK3 (q + 1, c ++ ws[q] ++ [0]) _ _ (by dsimp only; omega) ?_
                simp
                refine ⟨t4, by omega, ?_, by omega⟩
                rw [q3]; simp [t4]
            · have t5 : ws.length - (q + 1) = 0 := by omega
              rw [List.drop_eq_nil_of_le (by omega), brkG] at q3
              simp [q1, b1, et, q4, q5, q6, t4, t5]
              refine hX3 _ _ _ ?_
              simp
              refine hK2 (q + 1, [c ++ ws[q]]) _ _ (by dsimp only; omega) ?_
              simp
              exact ⟨by omega, by rw [q3, List.drop_eq_nil_of_le (by omega)]; rfl, by omega⟩
        · have ho1 : ¬ o.length = 0 := by simpa using ho
          have ho2 : o ≠ [] := ho
          rw [if_neg ho] at j4
          by_cases hj : j < ws.length
          case neg =>
            rw [List.drop_eq_nil_of_le (by omega), brk, List.append_nil] at j4
            have hj0 : ws.length - j = 0 := by omega
            simp [ho, hj, hj0]
            refine hX2 _ _ _ ?_
            simp
            refine hR _ _ ?_
            simp [X41, j4, h3]
          have hj' : 0 < ws.length - j := by omega
          have ho3 : (if (1 : Int) < (o.length : Int) then (1 : Int) else (o.length : Int)) = 1 := by split <;> omega
          rw [List.drop_eq_getElem_cons hj, brk] at j4
          simp [ho, hj, hj', ho1, ho3]
          refine call_of (blanks_fn b (by omega)) ?_
          simp
          refine loopX (fun (s : Nat × Word) vs h => s.1 < ws.length ∧ s.2.length ≤ 2000 * (s.1 + 1) ∧ o.length ≤ s.1 ∧ j ≤ s.1 ∧ brk W a b ws = o ++ brkG W b (s.2 ++ ws.getD s.1 []) (ws.drop (s.1 + 1)) ∧
            vs = [.undef, I W, .undef, .eptr 8 1 2 1 0 0, .undef, .undef, .undef, .undef, .undef, .own 9 1 ws.length 1 s.1 (ws.length - s.1), .undef, .undef, .own 10 1 o.length 1 0 o.length, .own 11 1 s.2.length 1 0 s.2.length, .undef, .undef, .undef, .undef, .undef, .undef, .undef, .undef, .undef] ∧
            h = List.replicate 8 (0, .dead) ++ [(1, .arr 1 0 false [I a, I b]), (1, .arr 1 0 false (ws.map CL)), (1, .arr 1 0 false (o.map UCL)), (1, .arr 1 0 false (s.2.map U))]) (fun s => ws.length - s.1) (j, zeros b) ?_ ?_
          · simp
            exact ⟨hj, by omega, j2, by rw [j4]; simp [hj]⟩
          · rintro ⟨q, c⟩ vs h ⟨q1, q2, q0, q00, q3, rfl, rfl⟩ Q3 hK3 hX3 hR3
            dsimp only at q1 q2 q0 q00 q3
            have hwl := n5 q q1
            have w1 : IntKind.i64.wrap ((c.length : Int) + 1) = (c.length : Int) + 1 := wrap_ok (by omega) (by omega)
            have b1 : c.length + ws[q].length ≤ 140737488355328 := by omega
            have bo : (o.length + 1) * 24 ≤ 140737488355328 := by omega
            have et : List.take ws[q].length (List.map U ws[q]) = List.map U ws[q] := List.take_of_length_le (by simp)
            have q4 : 0 < ws.length - q := by omega
            have q5 : (1 : Int) ≤ ((ws.length - q : Nat) : Int) := by omega
            have q6 : ws.length - q - 1 = ws.length - (q + 1) := by omega
            rw [show ws.getD q [] = ws[q] by simp [q1]] at q3
            by_cases t4 : q + 1 < ws.length
            · have t5 : ¬ (ws.length - (q + 1) = 0) := by omega
              have t6 : 0 < ws.length - (q + 1) := by omega
              have hwl2 := n5 (q + 1) t4
              have w2 : IntKind.i64.wrap ((c.length : Int) + (ws[q].length : Int) + 1) = (c.length : Int) + (ws[q].length : Int) + 1 := wrap_ok (by omega) (by omega)
              have w3 : IntKind.i64.wrap ((c.length : Int) + (ws[q].length : Int) + 1 + (ws[q + 1].length : Int)) = (c.length : Int) + (ws[q].length : Int) + 1 + (ws[q + 1].length : Int) := wrap_ok (by omega) (by omega)
              have b2 : c.length + ws[q].length + 1 ≤ 140737488355328 := by omega
              rw [List.drop_eq_getElem_cons t4, brkG] at q3
              by_cases t7 : W < (c ++ ws[q]).length + 1 + ws[q + 1].length
              · have t8 : (W : Int) < (c.length : Int) + (ws[q].length : Int) + 1 + (ws[q + 1].length : Int) := by simp at t7; omega
                rw [if_pos t7] at q3
                simp [ho, ho1, bo, q1, b1, et, q4, q5, q6, t4, t5, t6, w2, w3, t8]
                refine hX3 _ _ _ ?_
                simp
                refine hK2 (q + 1, o ++ [c ++ ws[q]]) _ _ (by dsimp only; omega) ?_
                simp
                exact ⟨by omega, by omega, by rw [q3, List.drop_eq_getElem_cons t4]; rfl⟩
              · have t8 : ¬ (W : Int) < (c.length : Int) + (ws[q].length : Int) + 1 + (ws[q + 1].length : Int) := by simp at t7; omega
                rw [if_neg t7] at q3
                simp [ho, ho1, bo, q1, b1, et, q4, q5, q6, t4, t5, t6, w2, w3, t8, b2]
                refine hK3 (q + 1, c ++ ws[q] ++ [0]) _ _ (by dsimp only; omega) ?_
                simp
                refine ⟨t4, by omega, by omega, by omega, ?_, by omega⟩
                rw [q3]; simp [t4]
            · have t5 : ws.length - (q + 1) = 0 := by omega
              rw [List.drop_eq_nil_of_le (by omega), brkG] at q3
              simp [ho, ho1, bo, q1, b1, et, q4, q5, q6, t4, t5]
              refine hX3 _ _ _ ?_
              simp
              refine hK2 (q + 1, o ++ [c ++ ws[q]]) _ _ (by dsimp only; omega) ?_
              simp
              exact ⟨by omega, by omega, by rw [q3, List.drop_eq_nil_of_le (by omega)]; rfl, by omega⟩
theorem breakP_fn (l : Word) (W a b : Int) (hl : l.length ≤ 1000) :
    Am.Fn Try.prog 41 [1, 0, 0] [CL l, I W, .agg [I a, I b]] (breakR .tup l W a b) := by
  have hcf := cleanP_fn l (by unfold maxLen; omega)
  by_cases t1 : W < 24
  · rw [breakR, if_pos (by omega)]
    refine fn_introX mixed (X := X41) c41 12 (by simp [X41]) fun Q hR hN => ?_
    simp [X41, t1]
    refine hR _ _ ?_
    simp [X41, errR]
  by_cases t2 : 60 < W
  · rw [breakR, if_pos (by omega)]
    refine fn_introX mixed (X := X41) c41 12 (by simp [X41]) fun Q hR hN => ?_
    simp [X41, t1, t2]
    refine hR _ _ ?_
    simp [X41, errR]
  by_cases t3 : okI a b = true
  case neg =>
    rw [breakR, if_pos (by simp [t3])]
    refine fn_introX mixed (X := X41) c41 12 (by simp [X41]) fun Q hR hN => ?_
    simp [X41, t1, t2]
    refine call_of (allowed_fn a b) ?_
    simp [t3]
    refine hR _ _ ?_
    simp [X41, errR]
  have hok := t3
  simp [okI] at t3
  obtain ⟨A, rfl⟩ : ∃ A : Nat, a = A := ⟨a.toNat, by omega⟩
  obtain ⟨B, rfl⟩ : ∃ B : Nat, b = B := ⟨b.toNat, by omega⟩
  obtain ⟨V, rfl⟩ : ∃ V : Nat, W = V := ⟨W.toNat, by omega⟩
  rw [breakR, if_neg (by simp [hok]; omega)]
  cases hc : (clean l).2 with
  | false =>
    rw [if_pos rfl]
    rw [hc] at hcf
    refine fn_introX mixed (X := X41) c41 12 (by simp [X41]) fun Q hR hN => ?_
    simp [X41, t1, t2]
    refine call_of (allowed_fn A B) ?_
    rw [hok]
    simp
    refine call_of hcf ?_
    simp
    refine hR _ _ ?_
    simp [X41, errR]
  | true =>
    rw [if_neg (by simp)]
    simpa using breakP_ok l V A B hl (by omega) (by omega) (by omega) hc
end Go.Proofs.Ytfpkcjjgooigbaa.L
