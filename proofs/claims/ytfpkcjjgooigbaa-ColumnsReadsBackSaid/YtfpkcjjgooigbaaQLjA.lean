/-
  Chapter 18's functions, for chapter 20: the reference's Break.
-/
import Derived.Test.YtfpkcjjgooigbaaQLeA
namespace Go.Proofs.Ytfpkcjjgooigbaa.L
set_option linter.unusedSimpArgs false
set_option linter.unusedVariables false
set_option linter.unusedSectionVars false
open Go.Proofs.Ytfpkcjjgooigbaa.Am
set_option maxHeartbeats 8000000
theorem break_ok (l : Word) (W a b : Nat) (hl : l.length ≤ 1000) (hW : 24 ≤ W ∧ W ≤ 60) (ha : a ≤ 16) (hb : b ≤ 16) (hc : (clean l).2 = true) (hlong : longG ((W : Int) - max (a : Int) b) 0 (words l) = -1) :
    Am.Fn Try.prog 44 [1, 0, 0] [CL l, I W, .agg [I a, I b]] (.agg [.uslc ((brk W a b (words l)).map UCL), I 0, I 0]) := by
  obtain ⟨n1, n2⟩ := wordsG_len l []
  have hcf := clean_fn l (by unfold maxLen; omega)
  have hlf := long_fn l ((W : Int) - max (a : Int) b) (by omega)
  have hwf := words_fn l (by omega)
  rw [hlong] at hlf
  rw [hc] at hcf
  obtain ⟨ws, hws⟩ : ∃ ws, words l = ws := ⟨_, rfl⟩
  have n3 : ws.length ≤ l.length + 1 := by rw [← hws]; exact n1
  have n4 : ∀ v ∈ ws, v.length ≤ l.length := fun v hv => by have := n2 v (by rw [← hws] at hv; exact hv); simpa using this
  rw [hws] at hwf ⊢
  have hok : okI a b = true := by simp [okI]; omega
  refine fn_introX mixed (X := X44) c44 20 (by simp [X44]) fun Q hR hN => ?_
  have t1 : ¬ (W : Int) < 24 := by omega
  have t2 : ¬ (60 : Int) < W := by omega
  have hmx : ∀ [inst : Decidable (a < b)], (if a < b then (b : Int) else (a : Int)) = max (a : Int) b := by intro _; split <;> omega
  have hsub : IntKind.i64.wrap ((W : Int) - max (a : Int) b) = (W : Int) - max (a : Int) b := wrap_ok (by omega) (by omega)
  simp [X44, t1, t2]
  refine call_of (fitsI_fn a b) ?_
  rw [hok]
  simp
  refine call_of hcf ?_
  simp [hmx, hsub]
  refine call_of hlf ?_
  simp
  refine call_of hwf ?_
  cases hw0 : ws with
  | nil => exact absurd (hws.trans hw0) (wordsG_ne l [])
  | cons w0 wr =>
    have t3 : (a : Int) ≤ 140737488355328 ∧ (a : Int) ≤ 9223372036854775807 := by omega
    have n5 : w0.length ≤ l.length := n4 w0 (by rw [hw0]; simp)
    have b1 : w0.length ≤ 140737488355328 := by omega
    have b2 : a + w0.length ≤ 140737488355328 := by omega
    have b3 : (0 : Int) ≤ a := by omega
    have et : List.take w0.length (List.map U w0) = List.map U w0 := List.take_of_length_le (by simp)
    simp [t3, b1, b2, b3, et]
    refine loopX (fun (s : Nat × List Word × Word) vs h => 1 ≤ s.1 ∧ s.1 ≤ ws.length ∧ s.2.1.length ≤ s.1 ∧ s.2.2.length ≤ 2000 * s.1 ∧ brk W a b ws = s.2.1 ++ brkG W b s.2.2 (ws.drop s.1) ∧
      vs = [.undef, I W, .undef, .eptr 15 1 2 1 0 0, .ptr 16 1 0, .undef, .undef, .undef, .own 17 1 ws.length 1 0 ws.length, .own 18 1 s.2.1.length 1 0 s.2.1.length, .own 19 1 s.2.2.length 1 0 s.2.2.length, I s.1, .undef, .undef, .undef, .undef, .undef] ∧
      h = List.replicate 15 (0, .dead) ++ [(1, .arr 1 0 false [I a, I b]), (1, .var [.nils, I 0, I 0]), (1, .arr 1 0 false (ws.map UCL)), (1, .arr 1 0 false (s.2.1.map UCL)), (1, .arr 1 0 false (s.2.2.map U))]) (fun s => ws.length - s.1) (1, [], zeros a ++ w0) ?_ ?_
    · simp [hw0]
      exact ⟨by omega, rfl⟩
    · rintro ⟨i, o, c⟩ vs h ⟨h1, h2, h3, h4, h5, rfl, rfl⟩ Q hK hX hR'
      dsimp only at h1 h2 h3 h4 h5
      by_cases hi : i < ws.length
      · have hwl := n4 _ (List.getElem_mem hi)
        rw [List.drop_eq_getElem_cons hi, brkG] at h5
        have w1 : IntKind.i64.wrap ((i : Int) + 1) = (i : Int) + 1 := wrap_ok (by omega) (by omega)
        have w2 : IntKind.i64.wrap ((c.length : Int) + 1) = (c.length : Int) + 1 := wrap_ok (by omega) (by omega)
        have w3 : IntKind.i64.wrap ((c.length : Int) + 1 + (ws[i].length : Int)) = (c.length : Int) + 1 + (ws[i].length : Int) := wrap_ok (by omega) (by omega)
        have et : List.take ws[i].length (List.map U ws[i]) = List.map U ws[i] := List.take_of_length_le (by simp)
        have t4 : (b : Int) ≤ 140737488355328 ∧ (b : Int) ≤ 9223372036854775807 := by omega
        have b1 : ws[i].length ≤ 140737488355328 := by omega
        have b2 : b + ws[i].length ≤ 140737488355328 := by omega
        have b3 : (0 : Int) ≤ b := by omega
        have b4 : (o.length + 1) * 24 ≤ 140737488355328 := by omega
        have b5 : c.length + 1 ≤ 140737488355328 := by omega
        have b6 : c.length + 1 + ws[i].length ≤ 140737488355328 := by omega
        by_cases t : W < c.length + 1 + ws[i].length
        · have t' : (W : Int) < (c.length : Int) + 1 + (ws[i].length : Int) := by omega
          rw [if_pos t] at h5
          simp [hi, w1, w2, w3, et, t4, b1, b2, b3, b4, b5, b6, t']
          refine hK (i + 1, o ++ [c], zeros b ++ ws[i]) _ _ (by dsimp only; omega) ?_
          simp [h5]
          omega
        · have t' : ¬ (W : Int) < (c.length : Int) + 1 + (ws[i].length : Int) := by omega
          rw [if_neg t] at h5
          simp [hi, w1, w2, w3, et, t4, b1, b2, b3, b4, b5, b6, t']
          refine hK (i + 1, o, c ++ 0 :: ws[i]) _ _ (by dsimp only; omega) ?_
          simp [h5]
          omega
      · rw [List.drop_eq_nil_of_le (by omega), brkG] at h5
        simp [hi]
        have b4 : (o.length + 1) * 24 ≤ 140737488355328 := by omega
        refine hX _ _ _ ?_
        simp [b4]
        refine hR _ _ ?_
        simp [X44, h5]
def errR (mk : List PV → PV) (at_ e : Int) : PV := mk [.nils, I at_, I e]
/-- what Break gives -/
def breakR (mk : List PV → PV) (l : Word) (W a b : Int) : PV :=
  if W < 24 ∨ 60 < W ∨ okI a b = false then errR mk 0 1
  else if (clean l).2 = false then errR mk (clean l).1 180
  else if 0 ≤ longG (W - max a b) 0 (words l) then errR mk (longG (W - max a b) 0 (words l)) 181
  else mk [.uslc ((brk W.toNat a.toNat b.toNat (words l)).map UCL), I 0, I 0]
theorem breakRef_fn (l : Word) (W a b : Int) (hl : l.length ≤ 1000) :
    Am.Fn Try.prog 44 [1, 0, 0] [CL l, I W, .agg [I a, I b]] (breakR .agg l W a b) := by
  have hcf := clean_fn l (by unfold maxLen; omega)
  by_cases t1 : W < 24
  · rw [breakR, if_pos (by omega)]
    refine fn_introX mixed (X := X44) c44 20 (by simp [X44]) fun Q hR hN => ?_
    simp [X44, t1]
    refine hR _ _ ?_
    simp [X44, errR]
  by_cases t2 : 60 < W
  · rw [breakR, if_pos (by omega)]
    refine fn_introX mixed (X := X44) c44 20 (by simp [X44]) fun Q hR hN => ?_
    simp [X44, t1, t2]
    refine hR _ _ ?_
    simp [X44, errR]
  by_cases t3 : okI a b = true
  case neg =>
    rw [breakR, if_pos (by simp [t3])]
    refine fn_introX mixed (X := X44) c44 20 (by simp [X44]) fun Q hR hN => ?_
    simp [X44, t1, t2]
    refine call_of (fitsI_fn a b) ?_
    simp [t3]
    refine hR _ _ ?_
    simp [X44, errR]
  have hok := t3
  simp [okI] at t3
  obtain ⟨A, rfl⟩ : ∃ A : Nat, a = A := ⟨a.toNat, by omega⟩
  obtain ⟨B, rfl⟩ : ∃ B : Nat, b = B := ⟨b.toNat, by omega⟩
  obtain ⟨V, rfl⟩ : ∃ V : Nat, W = V := ⟨W.toNat, by omega⟩
  rw [breakR, if_neg (by simp [hok]; omega)]
  cases hc : (clean l).2 with
  | false =>
    rw [if_pos rfl]
    rw [hc] at hcf
    refine fn_introX mixed (X := X44) c44 20 (by simp [X44]) fun Q hR hN => ?_
    simp [X44, t1, t2]
    refine call_of (fitsI_fn A B) ?_
    rw [hok]
    simp
    refine call_of hcf ?_
    simp
    refine hR _ _ ?_
    simp [X44, errR]
  | true =>
    rw [if_neg (by simp)]
    by_cases t4 : 0 ≤ longG ((V : Int) - max (A : Int) B) 0 (words l)
    · rw [if_pos t4]
      rw [hc] at hcf
      have hlf := long_fn l ((V : Int) - max (A : Int) B) (by omega)
      have hmx : ∀ [inst : Decidable (A < B)], (if A < B then (B : Int) else (A : Int)) = max (A : Int) B := by intro _; split <;> omega
      have hsub : IntKind.i64.wrap ((V : Int) - max (A : Int) B) = (V : Int) - max (A : Int) B := wrap_ok (by omega) (by omega)
      refine fn_introX mixed (X := X44) c44 20 (by simp [X44]) fun Q hR hN => ?_
      simp [X44, t1, t2]
      refine call_of (fitsI_fn A B) ?_
      rw [hok]
      simp
      refine call_of hcf ?_
      simp [hmx, hsub]
      refine call_of hlf ?_
      simp [t4]
      refine hR _ _ ?_
      simp [X44, errR]
    · rw [if_neg t4]
      have hl1 : longG ((V : Int) - max (A : Int) B) 0 (words l) = -1 := by
        rcases longG_range (most := (V : Int) - max (A : Int) B) (ws := words l) (a := 0) (by omega) with h | h <;> omega
      simpa using break_ok l V A B hl (by omega) (by omega) (by omega) hc hl1
end Go.Proofs.Ytfpkcjjgooigbaa.L
