/-
  Chapter 20: made rows.
-/
import Derived.Test.YtfpkcjjgooigbaaQCmA
namespace Go.Proofs.Ytfpkcjjgooigbaa.C
set_option linter.unusedSimpArgs false
set_option linter.unusedVariables false
set_option linter.unusedSectionVars false
open Go.Proofs.Ytfpkcjjgooigbaa.Am
open Go.Proofs.Ytfpkcjjgooigbaa.L (mixed wrap_ok I U CL CLL UCL Word clean words zeros)
set_option maxHeartbeats 8000000
/-- raw rows: numbers of columns and cells, words' lengths -/
abbrev RawP (cols most : Int) (l : List (List Int)) : PV := .agg [U cols, U most, .slc (l.map CL)]
def rowPre (l : List (List Int)) (m i : Nat) : Nat → Row
  | 0 => []
  | k + 1 => rowPre l m i k ++ [cellsL (l.getD (i + k) []) m]
def madePre (l : List (List Int)) (m c : Nat) : Nat → List Row
  | 0 => []
  | j + 1 => madePre l m c j ++ [rowPre l m (j * c) c]
def nRows (c n : Nat) : Nat := if n = 0 then 0 else if n ≤ c then 1 else if n ≤ 2 * c then 2 else if n ≤ 3 * c then 3 else 4
def madeN (l : List (List Int)) (m c : Nat) : List Row := if l = [] then [[[1]]] else madePre l m c (nRows c l.length)
abbrev URW (r : Row) : PV := .uslc (r.map CL)
theorem rowPre_len (l : List (List Int)) (m i : Nat) : ∀ k, (rowPre l m i k).length = k
  | 0 => rfl
  | k + 1 => by unfold rowPre; rw [List.length_append, rowPre_len l m i k]; rfl
theorem madePre_len (l : List (List Int)) (m c : Nat) : ∀ k, (madePre l m c k).length = k
  | 0 => rfl
  | k + 1 => by unfold madePre; rw [List.length_append, madePre_len l m c k]; rfl
theorem Made0 (cols most : Int) (l : List (List Int)) (hc : 0 ≤ cols ∧ cols ≤ 255) (hm : 0 ≤ most ∧ most ≤ 255) (hl : ∀ x ∈ l, ∀ a ∈ x, 0 ≤ a ∧ a ≤ 255) (c m : Nat) (ec : (c : Int) = 1 + cols % 4) (em : (m : Int) = 1 + most % 20) :
    Am.Fn Try.prog 9 [1] [RawP cols most l] (.uslc (if l = [] then [RW [[1]]] else (madeN l m c).map URW)) := by
  refine fn_introX mixed (X := X9) c9 15 (by simp [X9]) fun Q hR hN => ?_
  have w1 : cols.tmod 4 = cols % 4 := Int.tmod_eq_emod_of_nonneg hc.1
  have w2 : IntKind.i64.wrap (cols % 4) = cols % 4 := wrap_ok (by omega) (by omega)
  have w3 : IntKind.i64.wrap (1 + cols % 4) = (c : Int) := by rw [wrap_ok (by omega) (by omega)]; omega
  have v1 : most.tmod 20 = most % 20 := Int.tmod_eq_emod_of_nonneg hm.1
  have v2 : IntKind.i64.wrap (most % 20) = most % 20 := wrap_ok (by omega) (by omega)
  have v3 : IntKind.i64.wrap (1 + most % 20) = (m : Int) := by rw [wrap_ok (by omega) (by omega)]; omega
  simp [X9, w1, w2, w3]
  refine loopX (fun (p : Nat × List Row) vs h => p.1 ≤ 4 ∧ (p.1 = 0 ∨ (p.1 - 1) * c < l.length) ∧ p.2 = madePre l m c p.1 ∧ vs = [.undef, .ptr 12 1 0, .undef, I c, .own 13 1 p.2.length 1 0 p.2.length, I (p.1 * c : Nat), .undef, .undef, .undef, .undef, .undef, .undef, .undef] ∧
    h = [dd, dd, dd, dd, dd, dd, dd, dd, dd, dd, dd, dd, (1, .var [U cols, U most, .slc (l.map CL)]), (1, .arr 1 0 false (p.2.map URW)), dd]) (fun p => 4 - p.1) (0, []) ?_ ?_
  · simp [madePre]
  · rintro ⟨j, o⟩ vs h ⟨g1, g0, g2, rfl, rfl⟩ Q' hK hX hR'
    dsimp only at g1 g2 g0
    have hol : o.length = j := by rw [g2]; exact madePre_len ..
    obtain ⟨i, hi⟩ : ∃ i, i = j * c := ⟨_, rfl⟩
    rw [← hi]
    have hi4 : i ≤ 4 * 4 := by rw [hi]; exact Nat.mul_le_mul g1 (by omega)
    by_cases hin : i < l.length
    · by_cases hj4 : j < 4
      · have t4 : (o.length : Int) < 4 := by omega
        simp [hin, t4]
        refine loopX (fun (p : Nat × Row) vs h => p.1 ≤ c ∧ p.2 = rowPre l m i p.1 ∧ vs = [.undef, .ptr 12 1 0, .undef, I c, .own 13 1 o.length 1 0 o.length, I i, .own 14 1 p.2.length 1 0 p.2.length, I p.1, .undef, .undef, .undef, .undef, .undef] ∧
          h = [dd, dd, dd, dd, dd, dd, dd, dd, dd, dd, dd, dd, (1, .var [U cols, U most, .slc (l.map CL)]), (1, .arr 1 0 false (o.map URW)), (1, .arr 1 0 false (p.2.map UCL))]) (fun p => c - p.1) (0, []) ?_ ?_
        · simp [rowPre]
        · rintro ⟨k, r⟩ vs h ⟨g3, g4, rfl, rfl⟩ Q2 hK2 hX2 hR2
          dsimp only at g3 g4
          have hrl : r.length = k := by rw [g4]; exact rowPre_len ..
          by_cases hk : k < c
          · have y1 : IntKind.i64.wrap ((i : Int) + k) = ((i + k : Nat) : Int) := wrap_ok (by omega) (by omega)
            have y2 : IntKind.i64.wrap ((k : Int) + 1) = ((k + 1 : Nat) : Int) := wrap_ok (by omega) (by omega)
            have hn : rowPre l m i (k + 1) = r ++ [cellsL (l.getD (i + k) []) m] := by rw [rowPre, ← g4]
            have c1 : (r.length + 1) * 24 ≤ 140737488355328 := by omega
            by_cases hik : i + k < l.length
            · obtain ⟨q, hq⟩ : ∃ q, q = i + k := ⟨_, rfl⟩
              rw [← hq] at y1 hn hik
              have hB := Cells_fn l[q] m (by omega) (hl _ (List.getElem_mem _))
              rw [List.getD_eq_getElem?_getD, List.getElem?_eq_getElem hik, Option.getD_some] at hn
              generalize cellsL l[q] m = z at hB hn
              simp [hk, y1, hik, v1, v2, v3]
              refine call_of hB ?_
              simp [y2, c1]
              refine hK2 (k + 1, r ++ [z]) _ _ (by dsimp only; omega) ?_
              simp [hn]
              omega
            · have hB := Cells_fn [] m (by omega) (by simp)
              rw [List.getD_eq_getElem?_getD, List.getElem?_eq_none (by omega), Option.getD_none] at hn
              have hik' : ¬ ((i : Int) + (k : Int) < (l.length : Int)) := by omega
              simp [hk, y1, hik, hik', v1, v2, v3]
              refine call_of hB ?_
              generalize cellsL [] m = z at hB hn
              simp [y2, c1]
              refine hK2 (k + 1, r ++ [z]) _ _ (by dsimp only; omega) ?_
              simp [hn]
              omega
          · obtain rfl : k = c := by omega
            have hn : madePre l m k (j + 1) = o ++ [r] := by rw [madePre, ← g2, ← hi, ← g4]
            have c1 : (o.length + 1) * 24 ≤ 140737488355328 := by omega
            have y3 : IntKind.i64.wrap ((i : Int) + k) = (((j + 1) * k : Nat) : Int) := by rw [wrap_ok (by omega) (by omega), Nat.add_mul, ← hi]; omega
            simp
            refine hX2 _ _ _ ?_
            have hfz : List.map (frzE ∘ frzE ∘ UCL) r = r.map CL := List.map_congr_left fun r _ => rfl
            simp [c1, y3, hfz]
            refine hK (j + 1, o ++ [r]) _ _ (by dsimp only; omega) ?_
            simp [hn]
            exact ⟨by omega, by rw [← hi]; exact hin⟩
      · have hj : j = nRows c l.length := by
          unfold nRows
          obtain rfl : j = 4 := by omega
          have : ¬ l.length ≤ 3 * c := by rcases g0 with h | h <;> omega
          rw [if_neg (by omega), if_neg (by omega), if_neg (by omega), if_neg (by omega)]
        have t4 : ¬ (o.length : Int) < 4 := by omega
        have ho : ¬ o = [] := fun h => by rw [h] at hol; simp at hol; omega
        have hln : ¬ l = [] := fun h => by rw [h] at hin; simp at hin
        have hE : madeN l m c = o := by unfold madeN; rw [if_neg hln, ← hj, ← g2]
        simp [hin, t4]
        refine hX _ _ _ ?_
        simp [ho]
        refine hR _ _ ?_
        rw [if_neg hln, hE]
        simp [X9]
    · have hj : j = nRows c l.length := by
        unfold nRows
        have hc1 : 1 ≤ c ∧ c ≤ 4 := by omega
        have hj4 : j = 0 ∨ j = 1 ∨ j = 2 ∨ j = 3 ∨ j = 4 := by omega
        rcases hj4 with rfl | rfl | rfl | rfl | rfl <;> (repeat' split) <;> omega
      by_cases hln : l = []
      · subst hln
        have : j = 0 := by rw [hj]; rfl
        subst this
        have : o = [] := by rw [g2]; rfl
        subst this
        simp
        refine hX _ _ _ ?_
        simp
        refine call_of Base0_fn ?_
        simp [rules0]
        refine hR _ _ ?_
        simp [X9]
      · have ho : ¬ o = [] := fun h => by
          rw [h] at hol
          simp at hol
          subst hol
          have : ¬ 0 < l.length := by rw [hi] at hin; simpa using hin
          exact hln (List.length_eq_zero_iff.1 (by omega))
        have hE : madeN l m c = o := by unfold madeN; rw [if_neg hln, ← hj, ← g2]
        simp [hin]
        refine hX _ _ _ ?_
        simp [ho]
        refine hR _ _ ?_
        rw [if_neg hln, hE]
        simp [X9]
theorem Made_fn (cols most : Int) (l : List (List Int)) (hc : 0 ≤ cols ∧ cols ≤ 255) (hm : 0 ≤ most ∧ most ≤ 255) (hl : ∀ x ∈ l, ∀ a ∈ x, 0 ≤ a ∧ a ≤ 255) (c m : Nat) (ec : (c : Int) = 1 + cols % 4) (em : (m : Int) = 1 + most % 20) :
    Am.Fn Try.prog 9 [1] [RawP cols most l] (RWS (madeN l m c)) := by
  have h := Made0 cols most l hc hm hl c m ec em
  by_cases hn : l = []
  · rw [if_pos hn] at h
    have := Fn_frz (by rfl) h
    unfold madeN; rw [if_pos hn]
    exact this
  · rw [if_neg hn] at h
    have := Fn_frz (List.all_eq_true.2 fun x hx => by
      obtain ⟨r, _, rfl⟩ := List.mem_map.1 hx
      rfl) h
    rw [List.map_map] at this
    have e : (madeN l m c).map (frzE ∘ URW) = (madeN l m c).map RW := List.map_congr_left fun r _ => by
      show frzE (.uslc (r.map CL)) = RW r
      rfl
    rw [e] at this
    exact this
end Go.Proofs.Ytfpkcjjgooigbaa.C
