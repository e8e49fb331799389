/-
  Chapter 20: the width of the columns.
-/
import Derived.Test.YtfpkcjjgooigbaaQCeA
namespace Go.Proofs.Ytfpkcjjgooigbaa.C
set_option linter.unusedSimpArgs false
set_option linter.unusedVariables false
set_option linter.unusedSectionVars false
open Go.Proofs.Ytfpkcjjgooigbaa.Am
open Go.Proofs.Ytfpkcjjgooigbaa.L (mixed wrap_ok I U CL CLL UCL Word clean words zeros)
set_option maxHeartbeats 8000000
/-- even rows that are not too long -/
structure Ev (rows : List Row) : Prop where
  pos : 0 < rows.length
  c1 : 1 ≤ nc rows
  c4 : nc rows ≤ 4
  all : ∀ (j : Nat) (h : j < rows.length), rows[j].length = nc rows
  len : rows.length ≤ 100
  ent : ∀ (j : Nat) (h : j < rows.length) (k : Nat) (h' : k < rows[j].length), rows[j][k].length ≤ 1000
theorem Ev.of {rows : List Row} (h : evenB rows = true) (hl : rows.length ≤ 100) (he : ∀ r ∈ rows, ∀ x ∈ r, x.length ≤ 1000) : Ev rows := by
  obtain ⟨h1, h2, h3, h4⟩ := (even_iff rows).1 h
  have hp : 0 < rows.length := List.length_pos_iff.2 h1
  exact ⟨hp, h2, h3, fun j hj => h4 j hj hj, hl, fun j hj k hk => he _ (List.getElem_mem hj) _ (List.getElem_mem hk)⟩
/-- a column's width, of the first j rows -/
def colU (rows : List Row) (k j : Nat) : Nat := (rows.take j).foldl (fun m r => max m (r.getD k []).length) 0
theorem colU_succ {rows : List Row} {k j : Nat} (hj : j < rows.length) (hk : k < rows[j].length) : colU rows k (j + 1) = max (colU rows k j) rows[j][k].length := by
  unfold colU; rw [List.take_succ_eq_append_getElem hj, List.foldl_append]
  simp [List.getD_eq_getElem?_getD, List.getElem?_eq_getElem hk]
theorem colU_all (rows : List Row) (k : Nat) : colU rows k rows.length = colW rows k := by unfold colU colW; rw [List.take_length]
theorem foldl_max_le {f : Row → Nat} {b : Nat} : ∀ (l : List Row) (m : Nat), m ≤ b → (∀ r ∈ l, f r ≤ b) → l.foldl (fun m r => max m (f r)) m ≤ b
  | [], m, h, _ => h
  | r :: l, m, h, hr => by
    rw [List.foldl_cons]
    exact foldl_max_le l _ (by have := hr r (List.mem_cons_self ..); omega) fun x hx => hr x (List.mem_cons_of_mem _ hx)
theorem colU_le {rows : List Row} (E : Ev rows) (k j : Nat) : colU rows k j ≤ 1000 := by
  unfold colU
  refine foldl_max_le _ _ (by omega) fun r hr => ?_
  obtain ⟨i, hi, rfl⟩ := List.getElem_of_mem (List.mem_of_mem_take hr)
  rw [List.getD_eq_getElem?_getD]
  by_cases hk : k < rows[i].length
  · rw [List.getElem?_eq_getElem hk]; exact E.ent i hi k hk
  · rw [List.getElem?_eq_none (by omega)]; simp
theorem colW_le {rows : List Row} (E : Ev rows) (k : Nat) : colW rows k ≤ 1000 := by rw [← colU_all]; exact colU_le E k _
theorem sumW_le {rows : List Row} (E : Ev rows) : ∀ k, sumW rows k ≤ 1000 * k
  | 0 => by simp [sumW]
  | k + 1 => by have := sumW_le E k; have := colW_le E k; unfold sumW; omega
theorem le_colU {rows : List Row} {k : Nat} : ∀ (j i : Nat) (hi : i < rows.length) (hk : k < rows[i].length), i < j → j ≤ rows.length → rows[i][k].length ≤ colU rows k j
  | 0, _, _, _, h, _ => by omega
  | j + 1, i, hi, hk, h, hj => by
    by_cases he : i = j
    · subst he; rw [colU_succ hi hk]; omega
    · by_cases hkj : k < rows[j].length
      · rw [colU_succ (by omega) hkj]
        have := le_colU j i hi hk (by omega) (by omega)
        omega
      · have := le_colU j i hi hk (by omega) (by omega)
        unfold colU at this ⊢
        rw [List.take_succ_eq_append_getElem (by omega), List.foldl_append]
        simp only [List.foldl_cons, List.foldl_nil]
        omega
theorem le_colW {rows : List Row} {k i : Nat} (hi : i < rows.length) (hk : k < rows[i].length) : rows[i][k].length ≤ colW rows k := by
  rw [← colU_all]; exact le_colU _ i hi hk hi (Nat.le_refl _)
theorem width_fn (rows : List Row) (E : Ev rows) : Am.Fn Try.prog 21 [0] [RWS rows] (I (widthN rows)) := by
  obtain ⟨hp, h1, h4, ha, hl, he⟩ := id E
  have hc := nc_eq hp
  have w0 : IntKind.i64.wrap ((nc rows : Int) - 1) = ((nc rows - 1 : Nat) : Int) := by rw [wrap_ok (by omega) (by omega)]; omega
  have w1 : IntKind.i64.wrap (2 * ((nc rows - 1 : Nat) : Int)) = ((2 * (nc rows - 1) : Nat) : Int) := by rw [wrap_ok (by omega) (by omega)]; omega
  obtain ⟨n0, hn0⟩ : ∃ n0, n0 = 2 * (nc rows - 1) := ⟨_, rfl⟩
  rw [← hn0] at w1
  refine fn_introX mixed (X := X21) c21 0 (by simp [X21]) fun Q hR hN => ?_
  simp [X21, hp, hc, w0, w1]
  refine loopX (fun (k : Nat) vs h => k ≤ nc rows ∧ vs = [RWS rows, .undef, I (n0 + sumW rows k : Nat), I k, .undef, .undef, .undef, .undef] ∧ h = []) (fun k => nc rows - k) 0 ?_ ?_
  · simp [sumW]
  · rintro k vs h ⟨g1, rfl, rfl⟩ Q' hK hX hR'
    by_cases hk : k < nc rows
    · have hsle := sumW_le E k
      obtain ⟨s, hs⟩ : ∃ s, s = n0 + sumW rows k := ⟨_, rfl⟩
      rw [← hs]
      simp [hp, hc, hk]
      refine loopX (fun (j : Nat) vs h => j ≤ rows.length ∧ vs = [RWS rows, .undef, I s, I k, I (colU rows k j), I j, .undef, .undef] ∧ h = []) (fun j => rows.length - j) 0 ?_ ?_
      · simp [colU]
      · rintro j vs h ⟨g2, rfl, rfl⟩ Q2 hK2 hX2 hR2
        by_cases hj : j < rows.length
        · have hkj : k < rows[j].length := by rw [ha j hj]; exact hk
          have hu := colU_succ hj hkj
          have hw2 : IntKind.i64.wrap ((j : Int) + 1) = ((j + 1 : Nat) : Int) := wrap_ok (by omega) (by omega)
          have hmx : ∀ [inst : Decidable (colU rows k j < rows[j][k].length)], (if colU rows k j < rows[j][k].length then (rows[j][k].length : Int) else (colU rows k j : Int)) = (colU rows k (j + 1) : Int) := by intro _; rw [hu]; split <;> omega
          simp [hj, hkj, hmx, hw2]
          refine hK2 (j + 1) _ _ (by omega) ?_
          simp; omega
        · obtain rfl : j = rows.length := by omega
          have hcw := colW_le E k
          have hw3 : IntKind.i64.wrap ((s : Int) + (colW rows k : Int)) = ((n0 + sumW rows (k + 1) : Nat) : Int) := by
            rw [wrap_ok (by omega) (by omega)]; unfold sumW; omega
          have hw4 : IntKind.i64.wrap ((k : Int) + 1) = ((k + 1 : Nat) : Int) := wrap_ok (by omega) (by omega)
          rw [colU_all]
          simp
          refine hX2 _ _ _ ?_
          simp [hw3, hw4]
          refine hK (k + 1) _ _ (by omega) ?_
          simp; omega
    · obtain rfl : k = nc rows := by omega
      simp [hp, hc]
      refine hX _ _ _ ?_
      simp
      refine hR _ _ ?_
      simp [X21, widthN, hn0]
end Go.Proofs.Ytfpkcjjgooigbaa.C
