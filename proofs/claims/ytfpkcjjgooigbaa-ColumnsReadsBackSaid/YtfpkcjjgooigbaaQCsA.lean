/-
  Chapter 20: rows as stairs.
-/
import Derived.Test.YtfpkcjjgooigbaaQCrA
namespace Go.Proofs.Ytfpkcjjgooigbaa.C
set_option linter.unusedSimpArgs false
set_option linter.unusedVariables false
set_option linter.unusedSectionVars false
open Go.Proofs.Ytfpkcjjgooigbaa.Am
open Go.Proofs.Ytfpkcjjgooigbaa.L (mixed wrap_ok I U CL CLL UCL Word clean words zeros)
set_option maxHeartbeats 8000000
theorem asStairs_fn (rows : List Row) (E : Ev rows) : Am.Fn Try.prog 39 [1] [RWS rows] (.uslc ((stairsL rows).map UCL)) := by
  obtain ⟨hp, h1, h4, ha, hl, he⟩ := id E
  refine fn_introX mixed (X := X39) c39 13 (by simp [X39]) fun Q hR hN => ?_
  simp [X39]
  refine callv_of (entries_fi rows _ _ _ _ _ _ _ _ _ _ _ _) ?_
  simp
  refine range_of mixed (X := X51) c51 rfl (by rfl) (by simp [X51]) (by simp) ?_
  intro l Q2 hR2 hN2
  simp [X51]
  refine loopR (fun (i : Nat) vs h' => i ≤ rows.length ∧ ∃ (r1 : Am.Row) (g3 : Nat) (a2 a3 a4 a8 a9 a10 a11 a12 a13 : PV), vs = [.fn (.yield l) [] [], .ptr 12 1 0, a2, a3, a4, RWS rows, I rows.length, I i, a8, a9, a10, a11, a12, a13, gOf none] ∧
    h' = [(1, .var [.own 4 1 (stairU rows i).length 1 0 (stairU rows i).length]), r1, dd, (g3, .dead), (1, .arr 1 0 false ((stairU rows i).map UCL)), dd, dd, dd, dd, dd, dd, dd, (1, .var [RWS rows])]) (fun i => rows.length - i) 0 ?_ ?_
  · exact ⟨Nat.zero_le _, dd, 0, _, _, _, _, _, _, _, _, _, rfl, by simp [stairU]⟩
  · rintro i vs h' ⟨g1, r1, g3, a2, a3, a4, a8, a9, a10, a11, a12, a13, rfl, rfl⟩ Q3 hK3 hX3 hR3
    have hw1 : IntKind.i64.wrap ((i : Int) + 1) = ((i + 1 : Nat) : Int) := wrap_ok (by omega) (by omega)
    by_cases hi : i < rows.length
    · have hai := ha i hi
      have hsl := stairU_len E i (by omega)
      have hin : i * nc rows ≤ 100 * 4 := Nat.mul_le_mul (by omega) h4
      have hs := stairU_succ hi
      obtain ⟨o, ho⟩ : ∃ o, o = stairU rows i := ⟨_, rfl⟩
      rw [← ho] at hsl hs
      rw [← ho]
      simp [hi]
      refine loopR (fun (k : Nat) vs h' => k ≤ rows[i].length ∧ ∃ (r1 : Am.Row) (g3 : Nat) (a3 a4 a8 a12 a13 : PV), vs = [.fn (.yield l) [] [], .ptr 12 1 0, RW rows[i], a3, a4, RWS rows, I rows.length, I i, a8, RW rows[i], I rows[i].length, I k, a12, a13, gOf none] ∧
        h' = [(1, .var [.own 4 1 (o ++ stairPre rows[i] k).length 1 0 (o ++ stairPre rows[i] k).length]), r1, dd, (g3, .dead), (1, .arr 1 0 false ((o ++ stairPre rows[i] k).map UCL)), dd, dd, dd, dd, dd, dd, dd, (1, .var [RWS rows])]) (fun k => rows[i].length - k) 0 ?_ ?_
      · exact ⟨Nat.zero_le _, r1, g3, a3, a4, _, _, _, rfl, by simp [stairPre]⟩
      · rintro k vs h' ⟨g2, r1, g3, a3, a4, a8, a12, a13, rfl, rfl⟩ Q4 hK4 hX4 hR4
        have hpl := stairPre_len rows[i] k
        by_cases hk : k < rows[i].length
        · have hxl := he i hi k hk
          have hw2 : IntKind.i64.wrap ((k : Int) + 1) = ((k + 1 : Nat) : Int) := wrap_ok (by omega) (by omega)
          have w1 : IntKind.i64.wrap (2 * (k : Int)) = ((2 * k : Nat) : Int) := by rw [wrap_ok (by omega) (by omega)]; omega
          have e1 : o ++ stairPre rows[i] (k + 1) = (o ++ stairPre rows[i] k) ++ [zeros (2 * k) ++ rows[i][k]] := by
            rw [stairPre, ← List.append_assoc, List.getD_eq_getElem?_getD, List.getElem?_eq_getElem hk]; rfl
          have hlen : (o ++ stairPre rows[i] k).length ≤ 1000 := by rw [List.length_append]; omega
          generalize o ++ stairPre rows[i] k = a at e1 hlen
          obtain ⟨q, hq⟩ : ∃ q, q = 2 * k := ⟨_, rfl⟩
          rw [← hq] at w1 e1
          have c1 : (a.length + 1) * 24 ≤ 140737488355328 := by omega
          have c2 : q + rows[i][k].length ≤ 140737488355328 := by omega
          have c3 : (q : Int) ≤ 140737488355328 ∧ (q : Int) ≤ 9223372036854775807 := by omega
          have c0 : (0 : Int) ≤ q := by omega
          simp [hk]
          refine yield_of rfl rfl ?_
          simp [loopY, w1, c0, c1, c2, c3, hw2]
          refine hK4 (k + 1) _ _ (by omega) ?_
          rw [e1]
          exact ⟨by omega, (r1.1 + 1, .dead), g3 + 1, I k, CL rows[i][k], a8, .bool true, .bool false, by simp, by simp⟩
        · obtain rfl : k = rows[i].length := by omega
          rw [← hs]
          simp
          refine hX4 _ _ _ ?_
          simp [hw1]
          refine hK3 (i + 1) _ _ (by omega) ?_
          exact ⟨by omega, r1, g3, RW rows[i], a3, a4, a8, RW rows[i], I rows[i].length, I rows[i].length, .bool false, a13, by simp, by simp⟩
    · obtain rfl : i = rows.length := by omega
      rw [stairU_all]
      simp
      refine hX3 _ _ _ ?_
      simp
      refine hN2 none _ _ (by rfl) ?_
      simp
      refine hR _ _ ?_
      simp [X39]
end Go.Proofs.Ytfpkcjjgooigbaa.C
