/-
  Chapter 20: entries, the columns' widths.
-/
import Derived.Test.YtfpkcjjgooigbaaQCnA
import Derived.Test.YtfpkcjjgooigbaaQCoX
namespace Go.Proofs.Ytfpkcjjgooigbaa.C
set_option linter.unusedSimpArgs false
set_option linter.unusedVariables false
set_option linter.unusedSectionVars false
open Go.Proofs.Ytfpkcjjgooigbaa.Am
open Go.Proofs.Ytfpkcjjgooigbaa.L (mixed wrap_ok I U CL CLL UCL Word clean words zeros)
set_option maxHeartbeats 8000000
theorem entries_fi (rows : List Row) (r0 r1 r2 r3 r4 r5 r6 r7 r8 r9 r10 r11 : Am.Row) : FI Try.prog (.fn (.func 34) [] []) [RWS rows] [r0, r1, r2, r3, r4, r5, r6, r7, r8, r9, r10, r11, dd] (.fn (.func 51) [] [.ptr 12 1 0]) [(12, (1, .var [RWS rows]))] := by
  refine fn_introXI mixed (X := X34) c34 (by simp [X34]) (by simp) fun Q hR hN => ?_
  simp [X34]
  refine hR _ _ ?_
  simp [X34, finI]
/-- the widths, behind i rows and k entries -/
def wAt (rows : List Row) (i k t : Nat) : Nat := if t < k then colU rows t (i + 1) else colU rows t i
theorem wAt_step {rows : List Row} {i k : Nat} (hi : i < rows.length) (hk : k < rows[i].length) : wAt rows i (k + 1) k = max (wAt rows i k k) rows[i][k].length := by
  unfold wAt; rw [if_pos (by omega), if_neg (by omega), colU_succ hi hk]
theorem wAt_other {rows : List Row} {i k t : Nat} (h : t ≠ k) : wAt rows i (k + 1) t = wAt rows i k t := by
  unfold wAt
  by_cases c : t < k
  · rw [if_pos c, if_pos (by omega)]
  · rw [if_neg c, if_neg (by omega)]
theorem colU_none {rows : List Row} {i t : Nat} (hi : i < rows.length) (ht : rows[i].length ≤ t) : colU rows t (i + 1) = colU rows t i := by
  unfold colU; rw [List.take_succ_eq_append_getElem hi, List.foldl_append]
  simp [List.getD_eq_getElem?_getD, List.getElem?_eq_none ht]
theorem wAt_end {rows : List Row} {i t : Nat} (hi : i < rows.length) : wAt rows i rows[i].length t = colU rows t (i + 1) := by
  unfold wAt
  split
  · rfl
  · rw [colU_none hi (by omega)]
theorem widths_fn (rows : List Row) (E : Ev rows) : Am.Fn Try.prog 37 [0, 0, 0, 0] [RWS rows] (.agg [I (colW rows 0), I (colW rows 1), I (colW rows 2), I (colW rows 3)]) := by
  obtain ⟨hp, h1, h4, ha, hl, he⟩ := id E
  refine fn_introX mixed (X := X37) c37 13 (by simp [X37]) fun Q hR hN => ?_
  simp [X37]
  refine callv_of (entries_fi rows _ _ _ _ _ _ _ _ _ _ _ _) ?_
  simp
  refine range_of mixed (X := X51) c51 rfl (by rfl) (by simp [X51]) (by simp) ?_
  intro l Q2 hR2 hN2
  simp [X51]
  refine loopR (fun (i : Nat) vs h' => i ≤ rows.length ∧ ∃ (a2 a3 a4 a8 a9 a10 a11 a12 a13 : PV), vs = [.fn (.yield l) [] [], .ptr 12 1 0, a2, a3, a4, RWS rows, I rows.length, I i, a8, a9, a10, a11, a12, a13, gOf none] ∧
    h' = [(1, .arr 1 0 false [I 0, I 0, I 0, I 0]), (1, .arr 1 0 false [I (colU rows 0 i), I (colU rows 1 i), I (colU rows 2 i), I (colU rows 3 i)]), dd, dd, dd, dd, dd, dd, dd, dd, dd, dd, (1, .var [RWS rows])]) (fun i => rows.length - i) 0 ?_ ?_
  · exact ⟨Nat.zero_le _, _, _, _, _, _, _, _, _, _, rfl, by simp [colU]⟩
  · rintro i vs h' ⟨g1, a2, a3, a4, a8, a9, a10, a11, a12, a13, rfl, rfl⟩ Q3 hK3 hX3 hR3
    have hw1 : IntKind.i64.wrap ((i : Int) + 1) = ((i + 1 : Nat) : Int) := wrap_ok (by omega) (by omega)
    by_cases hi : i < rows.length
    · have hai := ha i hi
      simp [hi]
      refine loopR (fun (k : Nat) vs h' => k ≤ rows[i].length ∧ ∃ (a3 a4 a8 a12 a13 : PV), vs = [.fn (.yield l) [] [], .ptr 12 1 0, RW rows[i], a3, a4, RWS rows, I rows.length, I i, a8, RW rows[i], I rows[i].length, I k, a12, a13, gOf none] ∧
        h' = [(1, .arr 1 0 false [I 0, I 0, I 0, I 0]), (1, .arr 1 0 false [I (wAt rows i k 0), I (wAt rows i k 1), I (wAt rows i k 2), I (wAt rows i k 3)]), dd, dd, dd, dd, dd, dd, dd, dd, dd, dd, (1, .var [RWS rows])]) (fun k => rows[i].length - k) 0 ?_ ?_
      · exact ⟨Nat.zero_le _, _, _, _, _, _, rfl, by simp [wAt]⟩
      · rintro k vs h' ⟨g2, a3, a4, a8, a12, a13, rfl, rfl⟩ Q4 hK4 hX4 hR4
        have hw2 : IntKind.i64.wrap ((k : Int) + 1) = ((k + 1 : Nat) : Int) := wrap_ok (by omega) (by omega)
        by_cases hk : k < rows[i].length
        · have hst := wAt_step hi hk
          have hmx : ∀ [inst : Decidable (wAt rows i k k < rows[i][k].length)], (if wAt rows i k k < rows[i][k].length then (rows[i][k].length : Int) else (wAt rows i k k : Int)) = (wAt rows i (k + 1) k : Int) := by intro _; rw [hst]; split <;> omega
          have ho := fun t (ht : t ≠ k) => wAt_other (rows := rows) (i := i) ht
          have hk4 : k = 0 ∨ k = 1 ∨ k = 2 ∨ k = 3 := by omega
          rcases hk4 with rfl | rfl | rfl | rfl
          · have w1 : IntKind.i64.wrap 1 = 1 := rfl
            have o1 := ho 1 (by omega)
            have o2 := ho 2 (by omega)
            have o3 := ho 3 (by omega)
            simp [hk]
            refine yield_of rfl rfl ?_
            simp [loopY, hmx, w1]
            refine hK4 (0 + 1) _ _ (by omega) ?_
            exact ⟨by omega, I 0, CL rows[i][0], a8, .bool true, .bool false, by simp, by simp [o1, o2, o3]⟩
          · have w1 : IntKind.i64.wrap 2 = 2 := rfl
            have hki : (1 : Int) < (rows[i].length : Int) := by omega
            have o1 := ho 0 (by omega)
            have o2 := ho 2 (by omega)
            have o3 := ho 3 (by omega)
            simp [hk, hki]
            refine yield_of rfl rfl ?_
            simp [loopY, hmx, w1]
            refine hK4 (1 + 1) _ _ (by omega) ?_
            exact ⟨by omega, I 1, CL rows[i][1], a8, .bool true, .bool false, by simp, by simp [o1, o2, o3]⟩
          · have w1 : IntKind.i64.wrap 3 = 3 := rfl
            have hki : (2 : Int) < (rows[i].length : Int) := by omega
            have o1 := ho 0 (by omega)
            have o2 := ho 1 (by omega)
            have o3 := ho 3 (by omega)
            simp [hk, hki]
            refine yield_of rfl rfl ?_
            simp [loopY, hmx, w1]
            refine hK4 (2 + 1) _ _ (by omega) ?_
            exact ⟨by omega, I 2, CL rows[i][2], a8, .bool true, .bool false, by simp, by simp [o1, o2, o3]⟩
          · have w1 : IntKind.i64.wrap 4 = 4 := rfl
            have hki : (3 : Int) < (rows[i].length : Int) := by omega
            have o1 := ho 0 (by omega)
            have o2 := ho 1 (by omega)
            have o3 := ho 2 (by omega)
            simp [hk, hki]
            refine yield_of rfl rfl ?_
            simp [loopY, hmx, w1]
            refine hK4 (3 + 1) _ _ (by omega) ?_
            exact ⟨by omega, I 3, CL rows[i][3], a8, .bool true, .bool false, by simp, by simp [o1, o2, o3]⟩
        · obtain rfl : k = rows[i].length := by omega
          simp
          refine hX4 _ _ _ ?_
          simp [hw1, wAt_end hi]
          refine hK3 (i + 1) _ _ (by omega) ?_
          exact ⟨by omega, RW rows[i], a3, a4, a8, RW rows[i], I rows[i].length, I rows[i].length, .bool false, a13, by simp, by simp⟩
    · obtain rfl : i = rows.length := by omega
      simp
      refine hX3 _ _ _ ?_
      simp
      refine hN2 none _ _ (by rfl) ?_
      simp
      refine hR _ _ ?_
      simp [X37, colU_all]
end Go.Proofs.Ytfpkcjjgooigbaa.C
