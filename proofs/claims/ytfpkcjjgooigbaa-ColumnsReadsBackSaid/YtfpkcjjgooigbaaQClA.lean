/-
  Chapter 20: made cells.
-/
import Derived.Test.YtfpkcjjgooigbaaQCkA
namespace Go.Proofs.Ytfpkcjjgooigbaa.C
set_option linter.unusedSimpArgs false
set_option linter.unusedVariables false
set_option linter.unusedSectionVars false
open Go.Proofs.Ytfpkcjjgooigbaa.Am
open Go.Proofs.Ytfpkcjjgooigbaa.L (mixed wrap_ok I U CL CLL UCL Word clean words zeros)
set_option maxHeartbeats 8000000
/-- a word's first k cells -/
def wordPre (i : Nat) (a : Int) : Nat → Word
  | 0 => []
  | k + 1 => wordPre i a k ++ [1 + ((i : Int) + k + a) % 62]
theorem wordPre_len (i : Nat) (a : Int) : ∀ k, (wordPre i a k).length = k
  | 0 => rfl
  | k + 1 => by unfold wordPre; rw [List.length_append, wordPre_len i a k]; rfl
/-- the i-th word's length -/
def wLen (most : Nat) (a : Int) : Nat := (1 + a % most).toNat
def cellsPre (l : List Int) (most : Nat) : Nat → Word
  | 0 => []
  | i + 1 => cellsPre l most i ++ (if 0 < i then [0] else []) ++ wordPre i (l.getD i 0) (wLen most (l.getD i 0))
def cellsL (l : List Int) (most : Nat) : Word := if l = [] then [1] else cellsPre l most (min l.length 6)
theorem wLen_le {most : Nat} {a : Int} (hm : 1 ≤ most ∧ most ≤ 21) (ha : 0 ≤ a) : 1 ≤ wLen most a ∧ wLen most a ≤ 21 ∧ ((wLen most a : Nat) : Int) = 1 + a % most := by
  unfold wLen
  have h1 := Int.emod_nonneg a (show (most : Int) ≠ 0 by omega)
  have h2 := Int.emod_lt_of_pos a (show (0 : Int) < most by omega)
  omega
theorem cellsPre_len {l : List Int} {most : Nat} (hm : 1 ≤ most ∧ most ≤ 21) (hl : ∀ a ∈ l, 0 ≤ a ∧ a ≤ 255) : ∀ i, i ≤ l.length → (cellsPre l most i).length ≤ 22 * i
  | 0, _ => by simp [cellsPre]
  | i + 1, h => by
    have ih := cellsPre_len hm hl i (by omega)
    have ha := hl l[i] (List.getElem_mem _)
    have h2 := wLen_le hm ha.1
    unfold cellsPre
    rw [List.getD_eq_getElem?_getD, List.getElem?_eq_getElem (by omega), Option.getD_some, List.length_append, List.length_append, wordPre_len]
    split
    · simp only [List.length_cons, List.length_nil]; omega
    · simp only [List.length_nil]; omega
theorem u8w {n : Int} (h : 0 ≤ n ∧ n ≤ 255) : IntKind.u8.wrap n = n := by
  simp [IntKind.wrap, IntKind.signed, IntKind.bits]; omega
theorem Cells_fn (l : List Int) (most : Nat) (hm : 1 ≤ most ∧ most ≤ 21) (hl : ∀ a ∈ l, 0 ≤ a ∧ a ≤ 255) : Am.Fn Try.prog 16 [1] [CL l, I most] (.uslc ((cellsL l most).map U)) := by
  refine fn_introX mixed (X := X16) c16 7 (by simp [X16]) fun Q hR hN => ?_
  simp [X16]
  refine loopX (fun (p : Nat × Word) vs h => p.1 ≤ l.length ∧ p.1 ≤ 6 ∧ p.2 = cellsPre l most p.1 ∧ vs = [CL l, I most, .undef, .own 6 1 p.2.length 1 0 p.2.length, I p.1, .undef, .undef, .undef, .undef, .undef, .undef] ∧ h = [dd, dd, dd, dd, dd, dd, (1, .arr 1 0 false (p.2.map U))]) (fun p => l.length - p.1) (0, []) ?_ ?_
  · simp [cellsPre]
  · rintro ⟨i, o⟩ vs h ⟨g1, g6, g2, rfl, rfl⟩ Q' hK hX hR'
    dsimp only at g1 g2 g6
    have hol := cellsPre_len hm hl i g1
    rw [← g2] at hol
    by_cases hi : i < l.length ∧ i < 6
    · obtain ⟨hi, hi6⟩ := hi
      have t6 : (i : Int) < 6 := by omega
      have ha := hl l[i] (List.getElem_mem _)
      obtain ⟨n1, n2, n3⟩ := wLen_le hm ha.1
      obtain ⟨n, hn⟩ : ∃ n, n = wLen most l[i] := ⟨_, rfl⟩
      rw [← hn] at n1 n2 n3
      have hm0 : ¬ most = 0 := by omega
      have w0 : IntKind.i64.wrap l[i] = l[i] := wrap_ok (by omega) (by omega)
      have h1 := Int.emod_nonneg l[i] (show (most : Int) ≠ 0 by omega)
      have w1 : IntKind.i64.wrap (l[i].tmod most) = l[i] % most := by rw [Int.tmod_eq_emod_of_nonneg ha.1, wrap_ok (by omega) (by omega)]
      have w1' : l[i].tmod most = l[i] % most := Int.tmod_eq_emod_of_nonneg ha.1
      have w2 : IntKind.i64.wrap (1 + l[i] % most) = (n : Int) := by rw [wrap_ok (by omega) (by omega)]; omega
      have hw2 : IntKind.i64.wrap ((i : Int) + 1) = ((i + 1 : Nat) : Int) := wrap_ok (by omega) (by omega)
      have c1 : o.length + 1 ≤ 140737488355328 := by omega
      by_cases hip : 0 < i
      · obtain ⟨c, hc⟩ : ∃ c : Word, c = o ++ (if 0 < i then [0] else []) := ⟨_, rfl⟩
        have hco : c = o ++ [0] := by rw [hc, if_pos hip]
        have hcm : List.map U o ++ [U 0] = c.map U := by rw [hco]; simp
        have hcn : o.length + 1 = c.length := by rw [hco]; simp
        rw [hcn] at c1
        simp [hi, t6, w0, w1, w1', w2, hm0, hip, c1, hcm, hcn]
        have hcl : c.length ≤ 22 * i + 1 := by rw [hc]; rw [if_pos hip, List.length_append]; simp; omega
        refine loopX (fun (p : Nat × Word) vs h => p.1 ≤ n ∧ p.2 = c ++ wordPre i l[i] p.1 ∧ vs = [CL l, I most, .undef, .own 6 1 p.2.length 1 0 p.2.length, I i, I n, I p.1, .undef, .undef, .undef, .undef] ∧ h = [dd, dd, dd, dd, dd, dd, (1, .arr 1 0 false (p.2.map U))]) (fun p => n - p.1) (0, c) ?_ ?_
        · simp [wordPre]
        · rintro ⟨k, d⟩ vs h ⟨g3, g4, rfl, rfl⟩ Q2 hK2 hX2 hR2
          dsimp only at g3 g4
          have hdl : d.length = c.length + k := by rw [g4, List.length_append, wordPre_len]
          by_cases hk : k < n
          · have e1 : wordPre i l[i] (k + 1) = wordPre i l[i] k ++ [1 + ((i : Int) + k + l[i]) % 62] := rfl
            have e2 : c ++ wordPre i l[i] (k + 1) = d ++ [1 + ((i : Int) + k + l[i]) % 62] := by rw [e1, ← List.append_assoc, ← g4]
            have y1 : IntKind.i64.wrap ((i : Int) + k) = (i : Int) + k := wrap_ok (by omega) (by omega)
            have y2 : IntKind.i64.wrap ((i : Int) + k + l[i]) = (i : Int) + k + l[i] := wrap_ok (by omega) (by omega)
            have y3 : ((i : Int) + k + l[i]).tmod 62 = ((i : Int) + k + l[i]) % 62 := Int.tmod_eq_emod_of_nonneg (by omega)
            have y4 : IntKind.i64.wrap (((i : Int) + k + l[i]) % 62) = ((i : Int) + k + l[i]) % 62 := wrap_ok (by omega) (by omega)
            obtain ⟨z, hz⟩ : ∃ z, z = 1 + ((i : Int) + k + l[i]) % 62 := ⟨_, rfl⟩
            rw [← hz] at e2
            have y5 : IntKind.i64.wrap (1 + ((i : Int) + k + l[i]) % 62) = z := by rw [hz]; exact wrap_ok (by omega) (by omega)
            have y6 : IntKind.u8.wrap z = z := u8w (by omega)
            have y7 : IntKind.i64.wrap ((k : Int) + 1) = ((k + 1 : Nat) : Int) := wrap_ok (by omega) (by omega)
            have c2 : d.length + 1 ≤ 140737488355328 := by omega
            simp [hk, hi, w0, y1, y2, y3, y4, y5, y6, y7, c2]
            refine hK2 (k + 1, d ++ [z]) _ _ (by dsimp only; omega) ?_
            simp [e2]
            omega
          · obtain rfl : k = n := by omega
            have hn2 : cellsPre l most (i + 1) = d := by
              unfold cellsPre
              rw [List.getD_eq_getElem?_getD, List.getElem?_eq_getElem hi, Option.getD_some, ← hn, ← g2, ← hc, ← g4]
            simp
            refine hX2 _ _ _ ?_
            simp [hw2]
            refine hK (i + 1, d) _ _ (by dsimp only; omega) ?_
            simp [hn2]
            omega
      · obtain ⟨c, hc⟩ : ∃ c : Word, c = o ++ (if 0 < i then [0] else []) := ⟨_, rfl⟩
        have hco : c = o := by rw [hc, if_neg hip, List.append_nil]
        simp [hi, t6, w0, w1, w1', w2, hm0, hip]
        rw [← hco]
        have hcl : c.length ≤ 22 * i + 1 := by rw [hco]; omega
        refine loopX (fun (p : Nat × Word) vs h => p.1 ≤ n ∧ p.2 = c ++ wordPre i l[i] p.1 ∧ vs = [CL l, I most, .undef, .own 6 1 p.2.length 1 0 p.2.length, I i, I n, I p.1, .undef, .undef, .undef, .undef] ∧ h = [dd, dd, dd, dd, dd, dd, (1, .arr 1 0 false (p.2.map U))]) (fun p => n - p.1) (0, c) ?_ ?_
        · simp [wordPre]
        · rintro ⟨k, d⟩ vs h ⟨g3, g4, rfl, rfl⟩ Q2 hK2 hX2 hR2
          dsimp only at g3 g4
          have hdl : d.length = c.length + k := by rw [g4, List.length_append, wordPre_len]
          by_cases hk : k < n
          · have e1 : wordPre i l[i] (k + 1) = wordPre i l[i] k ++ [1 + ((i : Int) + k + l[i]) % 62] := rfl
            have e2 : c ++ wordPre i l[i] (k + 1) = d ++ [1 + ((i : Int) + k + l[i]) % 62] := by rw [e1, ← List.append_assoc, ← g4]
            have y1 : IntKind.i64.wrap ((i : Int) + k) = (i : Int) + k := wrap_ok (by omega) (by omega)
            have y2 : IntKind.i64.wrap ((i : Int) + k + l[i]) = (i : Int) + k + l[i] := wrap_ok (by omega) (by omega)
            have y3 : ((i : Int) + k + l[i]).tmod 62 = ((i : Int) + k + l[i]) % 62 := Int.tmod_eq_emod_of_nonneg (by omega)
            have y4 : IntKind.i64.wrap (((i : Int) + k + l[i]) % 62) = ((i : Int) + k + l[i]) % 62 := wrap_ok (by omega) (by omega)
            obtain ⟨z, hz⟩ : ∃ z, z = 1 + ((i : Int) + k + l[i]) % 62 := ⟨_, rfl⟩
            rw [← hz] at e2
            have y5 : IntKind.i64.wrap (1 + ((i : Int) + k + l[i]) % 62) = z := by rw [hz]; exact wrap_ok (by omega) (by omega)
            have y6 : IntKind.u8.wrap z = z := u8w (by omega)
            have y7 : IntKind.i64.wrap ((k : Int) + 1) = ((k + 1 : Nat) : Int) := wrap_ok (by omega) (by omega)
            have c2 : d.length + 1 ≤ 140737488355328 := by omega
            simp [hk, hi, w0, y1, y2, y3, y4, y5, y6, y7, c2]
            refine hK2 (k + 1, d ++ [z]) _ _ (by dsimp only; omega) ?_
            simp [e2]
            omega
          · obtain rfl : k = n := by omega
            have hn2 : cellsPre l most (i + 1) = d := by
              unfold cellsPre
              rw [List.getD_eq_getElem?_getD, List.getElem?_eq_getElem hi, Option.getD_some, ← hn, ← g2, ← hc, ← g4]
            simp
            refine hX2 _ _ _ ?_
            simp [hw2]
            refine hK (i + 1, d) _ _ (by dsimp only; omega) ?_
            simp [hn2]
            omega
    · have hmin : i = min l.length 6 := by omega
      have hE : cellsL l most = if l = [] then [1] else o := by unfold cellsL; rw [← hmin, ← g2]
      by_cases hn : l = []
      · subst hn
        rw [if_pos rfl] at hE
        have : i = 0 := by simpa using g1
        subst this
        have : o = [] := by rw [g2]; rfl
        subst this
        simp
        refine hX _ _ _ ?_
        simp
        refine hR _ _ ?_
        rw [hE]
        simp [X16]
      · rw [if_neg hn] at hE
        have ho : ¬ o = [] := by
          intro h
          have hi1 : ∃ t, i = t + 1 := ⟨i - 1, by have : 0 < l.length := List.length_pos_iff.2 hn; omega⟩
          obtain ⟨t, rfl⟩ := hi1
          have h2 := congrArg List.length g2
          rw [h] at h2
          unfold cellsPre at h2
          rw [List.getD_eq_getElem?_getD, List.getElem?_eq_getElem (by omega), Option.getD_some, List.length_append, wordPre_len] at h2
          have := (wLen_le hm (hl l[t] (List.getElem_mem _)).1).1
          simp at h2
          omega
        by_cases hil : i < l.length
        · have h6 : ¬ (i : Int) < 6 := by omega
          simp [hil, h6]
          refine hX _ _ _ ?_
          simp [ho]
          refine hR _ _ ?_
          rw [hE]
          simp [X16]
        · simp [hil]
          refine hX _ _ _ ?_
          simp [ho]
          refine hR _ _ ?_
          rw [hE]
          simp [X16]
end Go.Proofs.Ytfpkcjjgooigbaa.C
