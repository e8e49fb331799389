/-
  Chapter 20: rows in columns.
-/
import Derived.Test.YtfpkcjjgooigbaaQCqA
namespace Go.Proofs.Ytfpkcjjgooigbaa.C
set_option linter.unusedSimpArgs false
set_option linter.unusedVariables false
set_option linter.unusedSectionVars false
open Go.Proofs.Ytfpkcjjgooigbaa.Am
open Go.Proofs.Ytfpkcjjgooigbaa.L (mixed wrap_ok I U CL CLL UCL Word clean words zeros)
set_option maxHeartbeats 8000000
theorem inColumns_fn (rows : List Row) (E : Ev rows) : Am.Fn Try.prog 38 [1] [RWS rows] (.uslc ((colsL rows).map UCL)) := by
  obtain ⟨hp, h1, h4, ha, hl, he⟩ := id E
  have hW := widths_fn rows E
  refine fn_introX mixed (X := X38) c38 8 (by simp [X38]) fun Q hR hN => ?_
  simp [X38]
  refine call_of hW ?_
  simp
  refine loopX (fun (p : Nat × List Word) vs h => p.1 ≤ rows.length ∧ p.2 = colsU rows p.1 ∧ vs = [.undef, .undef, .eptr 5 1 4 1 0 0, .own 6 1 p.2.length 1 0 p.2.length, .undef, .undef, .undef, .undef, RWS rows, I rows.length, I p.1, .undef, .undef, .undef, .undef, .undef, .undef] ∧ h = [dd, dd, dd, dd, dd, (1, .arr 1 0 false (WA rows)), (1, .arr 1 0 false (p.2.map UCL)), dd]) (fun p => rows.length - p.1) (0, []) ?_ ?_
  · simp [colsU]
  · rintro ⟨i, o⟩ vs h ⟨g1, g2, rfl, rfl⟩ Q' hK hX hR'
    dsimp only at g1 g2
    by_cases hi : i < rows.length
    · have hol : o.length = i := by rw [g2]; exact colsU_len (by omega)
      have hai := ha i hi
      have hw2 : IntKind.i64.wrap ((i : Int) + 1) = ((i + 1 : Nat) : Int) := wrap_ok (by omega) (by omega)
      simp [hi]
      refine loopX (fun (p : Nat × List Int) vs h => p.1 ≤ nc rows ∧ p.2 = colPre rows rows[i] p.1 ∧ vs = [.undef, .undef, .eptr 5 1 4 1 0 0, .own 6 1 o.length 1 0 o.length, RW rows[i], .own 7 1 p.2.length 1 0 p.2.length, .undef, .undef, RWS rows, I rows.length, I i, .undef, RW rows[i], I rows[i].length, I p.1, .undef, .undef] ∧ h = [dd, dd, dd, dd, dd, (1, .arr 1 0 false (WA rows)), (1, .arr 1 0 false (o.map UCL)), (1, .arr 1 0 false (p.2.map U))]) (fun p => nc rows - p.1) (0, []) ?_ ?_
      · simp [colPre]
      · rintro ⟨k, c⟩ vs h ⟨g3, g4, rfl, rfl⟩ Q2 hK2 hX2 hR2
        dsimp only at g3 g4
        have hcl := colPre_len E hi k g3
        rw [← g4] at hcl
        by_cases hk : k < nc rows
        · have hki : k < rows[i].length := by rw [ha i hi]; exact hk
          have hcw := colW_le E k
          have hle := le_colW hi hki
          have hxl := he i hi k hki
          have w3 : IntKind.i64.wrap ((nc rows : Int) - 1) = ((nc rows - 1 : Nat) : Int) := by rw [wrap_ok (by omega) (by omega)]; omega
          have hw5 : IntKind.i64.wrap ((k : Int) + 1) = ((k + 1 : Nat) : Int) := wrap_ok (by omega) (by omega)
          have hn := show colPre rows rows[i] (k + 1) = colPre rows rows[i] k ++ rows[i].getD k [] ++ (if k + 1 < nc rows then zeros (colW rows k + 2 - (rows[i].getD k []).length) else []) from rfl
          rw [← g4, List.getD_eq_getElem?_getD, List.getElem?_eq_getElem hki, Option.getD_some] at hn
          have c1 : c.length + rows[i][k].length ≤ 140737488355328 := by omega
          have hxm : List.map U c ++ List.map U rows[i][k] = (c ++ rows[i][k]).map U := List.map_append.symm
          have hxl2 : c.length + rows[i][k].length = (c ++ rows[i][k]).length := List.length_append.symm
          have hg : (WA rows)[k]? = some (I (colW rows k)) := by rw [List.getElem?_eq_getElem (by simp; omega), WA_get rows (by omega)]
          have hwl : (WA rows).length = 4 := rfl
          have hwr : (∀ x, x ∈ WA rows → noRefE x = true) = True := eq_true (by intro x hx; simp at hx; rcases hx with rfl | rfl | rfl | rfl <;> rfl)
          have hk4 : (k : Int) < 4 := by omega
          have hk4n : k < 4 := by omega
          by_cases hlast : k + 1 < nc rows
          · have hk1 : k < nc rows - 1 := by omega
            rw [if_pos hlast] at hn
            obtain ⟨q, hq⟩ : ∃ q, q = colW rows k + 2 - rows[i][k].length := ⟨_, rfl⟩
            rw [← hq] at hn
            have w6 : IntKind.i64.wrap ((colW rows k : Int) + 2) = (colW rows k : Int) + 2 := wrap_ok (by omega) (by omega)
            have w7 : IntKind.i64.wrap ((colW rows k : Int) + 2 - (rows[i][k].length : Int)) = (q : Int) := by rw [wrap_ok (by omega) (by omega)]; omega
            obtain ⟨y, hy⟩ : ∃ y, y = c ++ rows[i][k] := ⟨_, rfl⟩
            rw [← hy] at hn hxm hxl2
            have hcy : c.length + rows[i][k].length ≤ 140737488355328 := c1
            rw [hxl2] at hcy
            have hzl : (zeros q).length = q := by simp
            have hym : List.map U y ++ List.replicate q (U 0) = (y ++ zeros q).map U := by rw [List.map_append]; simp
            have hyl : y.length + q = (y ++ zeros q).length := by rw [List.length_append, hzl]
            rw [← hn] at hym hyl
            have c2 : y.length + q ≤ 140737488355328 := by omega
            generalize hz : colPre rows rows[i] (k + 1) = z at hn hym hyl
            rw [hyl] at c2
            have q0 : (q : Int) ≤ 140737488355328 := by omega
            generalize hwa : WA rows = wa at hg hwl hwr
            have hg2 : ∀ h : k < wa.length, wa[k] = I (colW rows k) := fun h => by rw [List.getElem?_eq_getElem h] at hg; exact Option.some.inj hg
            simp [hki, hai, hk, hcy, w3, hk1, w6, w7, hxm, hxl2, hg2, hwl, hk4, hk4n, q0, hym, hyl, c2, hw5]
            refine hK2 (k + 1, z) _ _ (by dsimp only; omega) ?_
            simp [hz, hwr, hwa, hai]
            omega
          · have hk1 : ¬ k < nc rows - 1 := by omega
            rw [if_neg hlast, List.append_nil] at hn
            rw [← hn] at hxm hxl2
            have hcy : c.length + rows[i][k].length ≤ 140737488355328 := c1
            rw [hxl2] at hcy
            generalize hz : colPre rows rows[i] (k + 1) = z at hn hxm hxl2 hcy
            generalize hwa : WA rows = wa at hg hwl hwr
            simp [hki, hai, hk, hcy, w3, hk1, hxm, hxl2, hw5]
            refine hK2 (k + 1, z) _ _ (by dsimp only; omega) ?_
            simp [hz, hwr, hwa, hai]
            omega
        · obtain rfl : k = nc rows := by omega
          have hn := colsU_succ hi
          rw [← g4, ← g2] at hn
          have c3 : (o.length + 1) * 24 ≤ 140737488355328 := by omega
          generalize hz : colsU rows (i + 1) = z at hn
          simp [hai]
          refine hX2 _ _ _ ?_
          simp [c3, hw2]
          have hwr : (∀ x, x ∈ WA rows → noRefE x = true) = True := eq_true (by intro x hx; simp at hx; rcases hx with rfl | rfl | rfl | rfl <;> rfl)
          generalize hwa : WA rows = wa at hwr
          refine hK (i + 1, z) _ _ (by dsimp only; omega) ?_
          simp [hz, hwr, hwa]
          rw [hn]
          simp
          omega
    · obtain rfl : i = rows.length := by omega
      rw [colsU_all] at g2
      simp
      refine hX _ _ _ ?_
      simp
      refine hR _ _ ?_
      rw [g2]
      simp [X38]
end Go.Proofs.Ytfpkcjjgooigbaa.C
