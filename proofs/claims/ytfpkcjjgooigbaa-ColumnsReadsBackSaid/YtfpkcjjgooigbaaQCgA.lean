/-
  Chapter 20: the reference's Stairs and Columns.
-/
import Derived.Test.YtfpkcjjgooigbaaQCfA
namespace Go.Proofs.Ytfpkcjjgooigbaa.C
set_option linter.unusedSimpArgs false
set_option linter.unusedVariables false
set_option linter.unusedSectionVars false
open Go.Proofs.Ytfpkcjjgooigbaa.Am
open Go.Proofs.Ytfpkcjjgooigbaa.L (mixed wrap_ok I U CL CLL UCL Word clean words zeros)
set_option maxHeartbeats 8000000
abbrev dd : Nat × Ob := (0, .dead)
theorem stairPre_len (r : Row) : ∀ k, (stairPre r k).length = k
  | 0 => rfl
  | k + 1 => by unfold stairPre; rw [List.length_append, stairPre_len r k]; rfl
/-- the stairs of the first j rows -/
def stairU (rows : List Row) (j : Nat) : List Word := ((rows.take j).map fun r => stairPre r r.length).flatten
theorem stairU_succ {rows : List Row} {j : Nat} (hj : j < rows.length) : stairU rows (j + 1) = stairU rows j ++ stairPre rows[j] rows[j].length := by
  unfold stairU; rw [List.take_succ_eq_append_getElem hj, List.map_append, List.flatten_append]; simp
theorem stairU_all (rows : List Row) : stairU rows rows.length = stairsL rows := by unfold stairU stairsL; rw [List.take_length]
theorem stairU_len {rows : List Row} (E : Ev rows) : ∀ j, j ≤ rows.length → (stairU rows j).length = j * nc rows
  | 0, _ => by simp [stairU]
  | j + 1, h => by rw [stairU_succ (by omega), List.length_append, stairU_len E j (by omega), stairPre_len, E.all j (by omega), Nat.add_mul]; omega
theorem Stairs_fn (rows : List Row) (E : Ev rows) : Am.Fn Try.prog 23 [1] [RWS rows] (.uslc ((stairsL rows).map UCL)) := by
  obtain ⟨hp, h1, h4, ha, hl, he⟩ := id E
  refine fn_introX mixed (X := X23) c23 6 (by simp [X23]) fun Q hR hN => ?_
  simp [X23]
  refine loopX (fun (p : Nat × List Word) vs h => p.1 ≤ rows.length ∧ p.2 = stairU rows p.1 ∧ vs = [RWS rows, .undef, .own 4 1 p.2.length 1 0 p.2.length, I p.1, .undef, .undef, .undef] ∧ h = [dd, dd, dd, dd, (1, .arr 1 0 false (p.2.map UCL)), dd]) (fun p => rows.length - p.1) (0, []) ?_ ?_
  · simp [stairU]
  · rintro ⟨j, o⟩ vs h ⟨g1, g2, rfl, rfl⟩ Q' hK hX hR'
    dsimp only at g1 g2
    by_cases hj : j < rows.length
    · have hol : o.length = j * nc rows := by rw [g2]; exact stairU_len E j (by omega)
      have hjn : j * nc rows ≤ 100 * 4 := Nat.mul_le_mul (by omega) h4
      have hw2 : IntKind.i64.wrap ((j : Int) + 1) = ((j + 1 : Nat) : Int) := wrap_ok (by omega) (by omega)
      simp [hj]
      refine loopX (fun (k : Nat) vs h => k ≤ rows[j].length ∧ vs = [RWS rows, .undef, .own 4 1 (o ++ stairPre rows[j] k).length 1 0 (o ++ stairPre rows[j] k).length, I j, I k, .undef, .undef] ∧ h = [dd, dd, dd, dd, (1, .arr 1 0 false ((o ++ stairPre rows[j] k).map UCL)), dd]) (fun k => rows[j].length - k) 0 ?_ ?_
      · simp [stairPre]
      · rintro k vs h ⟨g3, rfl, rfl⟩ Q2 hK2 hX2 hR2
        have hpl := stairPre_len rows[j] k
        have haj := ha j hj
        by_cases hk : k < rows[j].length
        · have hB := blanks_fn (2 * k) rows[j][k] (by omega) (by have := he j hj k hk; omega)
          have w1 : IntKind.i64.wrap (2 * (k : Int)) = ((2 * k : Nat) : Int) := by rw [wrap_ok (by omega) (by omega)]; omega
          have hw3 : IntKind.i64.wrap ((k : Int) + 1) = ((k + 1 : Nat) : Int) := wrap_ok (by omega) (by omega)
          have e1 : o ++ stairPre rows[j] (k + 1) = (o ++ stairPre rows[j] k) ++ [zeros (2 * k) ++ rows[j][k]] := by
            rw [stairPre, ← List.append_assoc, List.getD_eq_getElem?_getD, List.getElem?_eq_getElem hk]; rfl
          have hlen : (o ++ stairPre rows[j] k).length ≤ 1000 := by rw [List.length_append]; omega
          generalize o ++ stairPre rows[j] k = a at e1 hlen
          generalize zeros (2 * k) ++ rows[j][k] = z at hB e1
          have c1 : (a.length + 1) * 24 ≤ 140737488355328 := by omega
          simp [hj, hk, w1]
          refine call_of hB ?_
          simp [hw3, c1]
          refine hK2 (k + 1) _ _ (by omega) ?_
          rw [e1]
          simp
          omega
        · obtain rfl : k = rows[j].length := by omega
          have e2 : o ++ stairPre rows[j] rows[j].length = stairU rows (j + 1) := by rw [stairU_succ hj, g2]
          rw [e2]
          generalize hz : stairU rows (j + 1) = z
          simp [hj]
          refine hX2 _ _ _ ?_
          simp [hw2]
          refine hK (j + 1, z) _ _ (by dsimp only; omega) ?_
          simp [hz]
          omega
    · obtain rfl : j = rows.length := by omega
      rw [stairU_all] at g2
      simp
      refine hX _ _ _ ?_
      simp
      refine hR _ _ ?_
      rw [g2]
      simp [X23]
end Go.Proofs.Ytfpkcjjgooigbaa.C
