/-
  Chapter 20: the reference's Columns.
-/
import Derived.Test.YtfpkcjjgooigbaaQCgA
namespace Go.Proofs.Ytfpkcjjgooigbaa.C
set_option linter.unusedSimpArgs false
set_option linter.unusedVariables false
set_option linter.unusedSectionVars false
open Go.Proofs.Ytfpkcjjgooigbaa.Am
open Go.Proofs.Ytfpkcjjgooigbaa.L (mixed wrap_ok I U CL CLL UCL Word clean words zeros)
set_option maxHeartbeats 8000000
theorem colPre_len {rows : List Row} (E : Ev rows) {j : Nat} (hj : j < rows.length) : ∀ k, k ≤ nc rows → (colPre rows rows[j] k).length ≤ 2002 * k
  | 0, _ => by simp [colPre]
  | k + 1, h => by
    have ih := colPre_len E hj k (by omega)
    have hc := colW_le E k
    have hk : k < rows[j].length := by rw [E.all j hj]; omega
    have he := E.ent j hj k hk
    unfold colPre
    rw [List.getD_eq_getElem?_getD, List.getElem?_eq_getElem hk]
    simp only [List.length_append, Option.getD_some]
    split
    · simp only [List.length_replicate]; omega
    · simp; omega
def colsU (rows : List Row) (j : Nat) : List Word := (rows.take j).map fun r => colPre rows r (nc rows)
theorem colsU_succ {rows : List Row} {j : Nat} (hj : j < rows.length) : colsU rows (j + 1) = colsU rows j ++ [colPre rows rows[j] (nc rows)] := by
  unfold colsU; rw [List.take_succ_eq_append_getElem hj, List.map_append]; rfl
theorem colsU_all (rows : List Row) : colsU rows rows.length = colsL rows := by unfold colsU colsL; rw [List.take_length]
theorem colsU_len {rows : List Row} {j : Nat} (h : j ≤ rows.length) : (colsU rows j).length = j := by unfold colsU; simp; omega
theorem Columns_fn (rows : List Row) (E : Ev rows) : Am.Fn Try.prog 22 [1] [RWS rows] (.uslc ((colsL rows).map UCL)) := by
  obtain ⟨hp, h1, h4, ha, hl, he⟩ := id E
  have hc := nc_eq hp
  refine fn_introX mixed (X := X22) c22 9 (by simp [X22]) fun Q hR hN => ?_
  simp [X22, hp, hc]
  refine loopX (fun (p : Nat × List Word) vs h => p.1 ≤ rows.length ∧ p.2 = colsU rows p.1 ∧ vs = [RWS rows, .undef, .own 7 1 p.2.length 1 0 p.2.length, I (nc rows), I p.1, .undef, .undef, .undef, .undef, .undef, .undef, .undef, .undef] ∧ h = [dd, dd, dd, dd, dd, dd, dd, (1, .arr 1 0 false (p.2.map UCL)), dd]) (fun p => rows.length - p.1) (0, []) ?_ ?_
  · simp [colsU]
  · rintro ⟨i, o⟩ vs h ⟨g1, g2, rfl, rfl⟩ Q' hK hX hR'
    dsimp only at g1 g2
    by_cases hi : i < rows.length
    · have hol : o.length = i := by rw [g2]; exact colsU_len (by omega)
      have hw2 : IntKind.i64.wrap ((i : Int) + 1) = ((i + 1 : Nat) : Int) := wrap_ok (by omega) (by omega)
      simp [hi]
      refine loopX (fun (p : Nat × List Int) vs h => p.1 ≤ nc rows ∧ p.2 = colPre rows rows[i] p.1 ∧ vs = [RWS rows, .undef, .own 7 1 o.length 1 0 o.length, I (nc rows), I i, .own 8 1 p.2.length 1 0 p.2.length, I p.1, .undef, .undef, .undef, .undef, .undef, .undef] ∧ h = [dd, dd, dd, dd, dd, dd, dd, (1, .arr 1 0 false (o.map UCL)), (1, .arr 1 0 false (p.2.map U))]) (fun p => nc rows - p.1) (0, []) ?_ ?_
      · simp [colPre]
      · rintro ⟨k, c⟩ vs h ⟨g3, g4, rfl, rfl⟩ Q2 hK2 hX2 hR2
        dsimp only at g3 g4
        have hcl := colPre_len E hi k g3
        rw [← g4] at hcl
        by_cases hk : k < nc rows
        · have hki : k < rows[i].length := by rw [ha i hi]; exact hk
          simp [hk]
          refine loopX (fun (j : Nat) vs h => j ≤ rows.length ∧ vs = [RWS rows, .undef, .own 7 1 o.length 1 0 o.length, I (nc rows), I i, .own 8 1 c.length 1 0 c.length, I k, I (colU rows k j), I j, .undef, .undef, .undef, .undef] ∧ h = [dd, dd, dd, dd, dd, dd, dd, (1, .arr 1 0 false (o.map UCL)), (1, .arr 1 0 false (c.map U))]) (fun j => rows.length - j) 0 ?_ ?_
          · simp [colU]
          · rintro j vs h ⟨g5, rfl, rfl⟩ Q3 hK3 hX3 hR3
            by_cases hj : j < rows.length
            · have hkj : k < rows[j].length := by rw [ha j hj]; exact hk
              have hu := colU_succ hj hkj
              have hw2 : IntKind.i64.wrap ((j : Int) + 1) = ((j + 1 : Nat) : Int) := wrap_ok (by omega) (by omega)
              have hmx : ∀ [inst : Decidable (colU rows k j < rows[j][k].length)], (if colU rows k j < rows[j][k].length then (rows[j][k].length : Int) else (colU rows k j : Int)) = (colU rows k (j + 1) : Int) := by intro _; rw [hu]; split <;> omega
              simp [hj, hkj, hmx, hw2]
              refine hK3 (j + 1) _ _ (by omega) ?_
              simp; omega
            · obtain rfl : j = rows.length := by omega
              rw [colU_all]
              have hcw := colW_le E k
              have hle := le_colW hi hki
              have hxl := he i hi k hki
              have w3 : IntKind.i64.wrap ((nc rows : Int) - 1) = ((nc rows - 1 : Nat) : Int) := by rw [wrap_ok (by omega) (by omega)]; omega
              have hw5 : IntKind.i64.wrap ((k : Int) + 1) = ((k + 1 : Nat) : Int) := wrap_ok (by omega) (by omega)
              have hn := show colPre rows rows[i] (k + 1) = colPre rows rows[i] k ++ rows[i].getD k [] ++ (if k + 1 < nc rows then zeros (colW rows k + 2 - (rows[i].getD k []).length) else []) from rfl
              rw [← g4, List.getD_eq_getElem?_getD, List.getElem?_eq_getElem hki, Option.getD_some] at hn
              have c1 : c.length + rows[i][k].length ≤ 140737488355328 := by omega
              have hxm : List.map U c ++ List.map U rows[i][k] = (c ++ rows[i][k]).map U := List.map_append.symm
              have hxl2 : c.length + rows[i][k].length = (c ++ rows[i][k]).length := List.length_append.symm
              simp
              refine hX3 _ _ _ ?_
              by_cases hlast : k + 1 < nc rows
              · have hk1 : k < nc rows - 1 := by omega
                rw [if_pos hlast] at hn
                obtain ⟨q, hq⟩ : ∃ q, q = colW rows k + 2 - rows[i][k].length := ⟨_, rfl⟩
                rw [← hq] at hn
                have w6 : IntKind.i64.wrap ((colW rows k : Int) - (rows[i][k].length : Int)) = (colW rows k : Int) - (rows[i][k].length : Int) := wrap_ok (by omega) (by omega)
                have w7 : IntKind.i64.wrap ((colW rows k : Int) - (rows[i][k].length : Int) + 2) = (q : Int) := by rw [wrap_ok (by omega) (by omega)]; omega
                have hB := blanks_fn q [] (by omega) (by simp)
                rw [List.append_nil] at hB
                obtain ⟨y, hy⟩ : ∃ y, y = c ++ rows[i][k] := ⟨_, rfl⟩
                rw [← hy] at hn hxm hxl2
                have hcy : c.length + rows[i][k].length ≤ 140737488355328 := c1
                rw [hxl2] at hcy
                have hzl : (zeros q).length = q := by simp
                have hym : List.map U y ++ List.map U (zeros q) = (y ++ zeros q).map U := List.map_append.symm
                have hyl : y.length + q = (y ++ zeros q).length := by rw [List.length_append, hzl]
                rw [← hn] at hym hyl
                have c2 : y.length + q ≤ 140737488355328 := by omega
                generalize hz : colPre rows rows[i] (k + 1) = z at hn hym hyl
                rw [hyl] at c2
                generalize zeros q = zq at hB hym hzl
                simp [hi, hki, hcy, w3, hk1, w6, w7, hxm, hxl2]
                refine call_of hB ?_
                rw [← hzl] at hyl
                simp [hym, hyl, c2, hw5]
                refine hK2 (k + 1, z) _ _ (by dsimp only; omega) ?_
                simp [hz]
                omega
              · have hk1 : ¬ k < nc rows - 1 := by omega
                rw [if_neg hlast, List.append_nil] at hn
                rw [← hn] at hxm hxl2
                have hcy : c.length + rows[i][k].length ≤ 140737488355328 := c1
                rw [hxl2] at hcy
                generalize hz : colPre rows rows[i] (k + 1) = z at hn hxm hxl2 hcy
                simp [hi, hki, hcy, w3, hk1, hxm, hxl2, hw5]
                refine hK2 (k + 1, z) _ _ (by dsimp only; omega) ?_
                simp [hz]
                omega
        · obtain rfl : k = nc rows := by omega
          have hn := colsU_succ hi
          rw [← g4, ← g2] at hn
          have c3 : (o.length + 1) * 24 ≤ 140737488355328 := by omega
          generalize hz : colsU rows (i + 1) = z at hn
          simp
          refine hX2 _ _ _ ?_
          simp [c3, hw2]
          refine hK (i + 1, z) _ _ (by dsimp only; omega) ?_
          simp [hz]
          rw [hn]
          simp
          omega
    · obtain rfl : i = rows.length := by omega
      rw [colsU_all] at g2
      simp
      refine hX _ _ _ ?_
      simp
      refine hR _ _ ?_
      rw [g2]
      simp [X22]
end Go.Proofs.Ytfpkcjjgooigbaa.C
