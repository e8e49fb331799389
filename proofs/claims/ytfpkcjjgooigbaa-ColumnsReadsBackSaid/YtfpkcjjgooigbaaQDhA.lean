/-
  Chapter 20, plain: stairs and lists, entry by entry.
-/
import Derived.Test.YtfpkcjjgooigbaaQDgA
namespace Go.Proofs.Ytfpkcjjgooigbaa.C
set_option linter.unusedSimpArgs false
set_option linter.unusedVariables false
set_option linter.unusedSectionVars false
open Go.Proofs.Ytfpkcjjgooigbaa.Am
open Go.Proofs.Ytfpkcjjgooigbaa.L (mixed wrap_ok I U CL CLL UCL Word clean words zeros ic wd brk brkG longG indent joinG)
set_option maxHeartbeats 8000000
def entAt (rows : List Row) (q k : Nat) : Word := (rows.getD q []).getD k []
theorem entAt_eq {rows : List Row} {q k : Nat} (hq : q < rows.length) (hk : k < rows[q].length) : entAt rows q k = rows[q][k] := by
  unfold entAt; rw [List.getD_eq_getElem?_getD, List.getD_eq_getElem?_getD, List.getElem?_eq_getElem hq, Option.getD_some, List.getElem?_eq_getElem hk]; rfl
/-- the rows that are read, as far as the k-th entry of row q -/
def acc (rows : List Row) (q k : Nat) : List Row := rows.take q ++ (if k = 0 then [] else [(rows.getD q []).take k])
def nxt (n : Nat) (q k : Nat) : Nat × Nat := if k + 1 = n then (q + 1, 0) else (q, k + 1)
theorem acc_nxt {rows : List Row} (E : Ev rows) {q k : Nat} (hq : q < rows.length) (hk : k < nc rows) : acc rows (nxt (nc rows) q k).1 (nxt (nc rows) q k).2 = rows.take q ++ [rows[q].take (k + 1)] := by
  unfold acc nxt
  by_cases h : k + 1 = nc rows
  · rw [if_pos h]
    simp only [if_true, List.append_nil]
    rw [List.take_succ_eq_append_getElem hq, h, ← E.all q hq, List.take_length]
  · rw [if_neg h]
    simp only [Nat.add_one_ne_zero, if_false]
    rw [List.getD_eq_getElem?_getD, List.getElem?_eq_getElem hq]; rfl
theorem acc_zero {rows : List Row} (q : Nat) : acc rows q 0 = rows.take q := by simp [acc]
theorem acc_pos {rows : List Row} {q k : Nat} (hq : q < rows.length) (hk : k ≠ 0) : acc rows q k = rows.take q ++ [rows[q].take k] := by
  unfold acc; rw [if_neg hk, List.getD_eq_getElem?_getD, List.getElem?_eq_getElem hq]; rfl
/-! stairs -/
theorem stairPre_get (r : Row) : ∀ (n k : Nat), k < n → (stairPre r n)[k]? = some (zeros (2 * k) ++ r.getD k [])
  | n + 1, k, h => by
    unfold stairPre
    by_cases hk : k < n
    · rw [List.getElem?_append_left (by rw [stairPre_all]; exact hk), stairPre_get r n k hk]
    · obtain rfl : k = n := by omega
      rw [List.getElem?_append_right (by rw [stairPre_all]; exact Nat.le_refl _), stairPre_all, Nat.sub_self]; rfl
theorem flat_get {f : Row → List Word} {n : Nat} : ∀ (l : List Row), (∀ r ∈ l, (f r).length = n) → ∀ (q k : Nat) (hq : q < l.length), k < n → (l.map f).flatten[q * n + k]? = (f l[q])[k]?
  | r :: l, h, 0, k, _, hk => by
    rw [List.map_cons, List.flatten_cons, Nat.zero_mul, Nat.zero_add, List.getElem?_append_left (by rw [h r (by simp)]; exact hk)]; rfl
  | r :: l, h, q + 1, k, hq, hk => by
    have hr := h r (by simp)
    rw [List.map_cons, List.flatten_cons, List.getElem?_append_right (by rw [hr, Nat.add_mul]; omega), hr, show (q + 1) * n + k - n = q * n + k by rw [Nat.add_mul]; omega,
      flat_get l (fun x hx => h x (by simp [hx])) q k (by simpa using hq) hk]; rfl
theorem stair_get {rows : List Row} (M : Md rows) {q k : Nat} (hq : q < rows.length) (hk : k < nc rows) : (stairsL rows)[q * nc rows + k]? = some (zeros (2 * k) ++ entAt rows q k) := by
  unfold stairsL
  rw [flat_get (n := nc rows) rows (fun r hr => by rw [stairPre_all, (md_row M hr).1]) q k hq hk, stairPre_get _ _ _ (by rw [(md_row M (List.getElem_mem hq)).1]; exact hk)]
  unfold entAt
  rw [List.getD_eq_getElem?_getD (l := rows), List.getElem?_eq_getElem hq]; rfl
theorem ent_ok {rows : List Row} (M : Md rows) {q k : Nat} (hq : q < rows.length) (hk : k < nc rows) : cl (entAt rows q k) = true ∧ (entAt rows q k).length ≤ 200 := by
  have hl := md_row M (List.getElem_mem hq)
  have hk' : k < rows[q].length := by rw [hl.1]; exact hk
  rw [entAt_eq hq hk']
  exact ⟨hl.2 _ (List.getElem_mem hk'), M.le _ (List.getElem_mem hq) _ (List.getElem_mem hk')⟩
/-! lists -/
def brE (w : Nat) (rows : List Row) (q k : Nat) : List Word := brk w (4 * k) (4 * k + 2) (words (entAt rows q k))
/-- the lines from the k-th entry of row q on -/
def rest (w : Nat) (rows : List Row) (q k : Nat) : List Word := (listPre w (rows.getD q []) (nc rows)).drop (listPre w (rows.getD q []) k).length ++ listL w (rows.drop (q + 1))
theorem listPre_split (w : Nat) (r : Row) : ∀ (n k : Nat), k ≤ n → ∃ t, listPre w r n = listPre w r k ++ t
  | 0, k, h => ⟨[], by obtain rfl : k = 0 := by omega
                       simp⟩
  | n + 1, k, h => by
    by_cases hk : k = n + 1
    · subst hk; exact ⟨[], by simp⟩
    · obtain ⟨t, ht⟩ := listPre_split w r n k (by omega)
      exact ⟨t ++ brk w (4 * n) (4 * n + 2) (words (r.getD n [])), by rw [listPre, ht, List.append_assoc]⟩
theorem rest_zero {w : Nat} {rows : List Row} (M : Md rows) {q : Nat} (hq : q < rows.length) : rest w rows q 0 = listL w (rows.drop q) := by
  unfold rest
  rw [List.drop_eq_getElem_cons hq]
  unfold listL
  rw [List.map_cons, List.flatten_cons, List.getD_eq_getElem?_getD, List.getElem?_eq_getElem hq]
  simp only [Option.getD_some, listPre, List.length_nil, List.drop_zero, (md_row M (List.getElem_mem hq)).1]
theorem rest_all {w : Nat} {rows : List Row} (M : Md rows) : rest w rows 0 0 = listL w rows := by
  rw [rest_zero M (by have := M.n1; omega)]; rfl
theorem rest_end {w : Nat} {rows : List Row} : listL w (rows.drop rows.length) = [] := by simp [listL]
/-- the lines from there on, or none -/
def restN (w : Nat) (rows : List Row) (p : Nat × Nat) : List Word := if p.1 < rows.length then rest w rows p.1 p.2 else []
theorem rest_step {w : Nat} {rows : List Row} (M : Md rows) {q k : Nat} (hq : q < rows.length) (hk : k < nc rows) : rest w rows q k = brE w rows q k ++ restN w rows (nxt (nc rows) q k) := by
  obtain ⟨t, ht⟩ := listPre_split w (rows.getD q []) (nc rows) (k + 1) (by omega)
  have h1 : listPre w (rows.getD q []) (k + 1) = listPre w (rows.getD q []) k ++ brE w rows q k := rfl
  have e1 : rest w rows q k = brE w rows q k ++ (t ++ listL w (rows.drop (q + 1))) := by
    unfold rest
    rw [ht, h1, List.append_assoc, List.drop_left, List.append_assoc]
  rw [e1]
  congr 1
  unfold restN nxt
  by_cases h : k + 1 = nc rows
  · rw [if_pos h]
    have ht0 : t = [] := by rw [← h] at ht; simpa using ht
    subst ht0
    by_cases hq2 : q + 1 < rows.length
    · rw [if_pos (show (q + 1, 0).1 < rows.length from hq2)]
      show _ = rest w rows (q + 1) 0
      rw [rest_zero M hq2]; rfl
    · rw [if_neg (show ¬ (q + 1, 0).1 < rows.length from hq2), List.drop_eq_nil_of_le (by omega)]
      simp [listL]
  · rw [if_neg h, if_pos (show (q, k + 1).1 < rows.length from hq)]
    show _ = rest w rows q (k + 1)
    unfold rest
    rw [ht, List.drop_left]
/-- the groups of words that a line has -/
theorem brk_groups {l : Word} {W a b : Nat} (hc : (clean l).2 = true) : ∃ G : List (List Word), G ≠ [] ∧ (∀ g ∈ G, g ≠ [] ∧ ∀ w ∈ g, wd w) ∧ G.flatten = words l ∧ brk W a b (words l) = L.linesOf a b G := by
  have hw := L.clean_words hc
  have hne : words l ≠ [] := L.wordsG_ne l []
  cases hws : words l with
  | nil => exact absurd hws hne
  | cons w r =>
    rw [hws] at hw
    have hfl := L.grp_flat W b r (a + (ic [w]).length) [w]
    refine ⟨L.grp W b (a + (ic [w]).length) [w] r, L.grp_nil W b r _ _, fun g hg => ⟨L.grp_ne W b r _ [w] (by simp) g hg, fun v hv => hw v ?_⟩, hfl, ?_⟩
    · have : v ∈ (L.grp W b (a + (ic [w]).length) [w] r).flatten := List.mem_flatten.2 ⟨g, hg, hv⟩
      rw [hfl] at this; simpa using this
    · have := L.brk_grp W b r a [w] (by simp)
      simpa [brk, ic] using this
/-- a broken entry's lines -/
theorem brE_lines {w : Nat} {rows : List Row} (M : Md rows) {q k : Nat} (hq : q < rows.length) (hk : k < nc rows) : ∃ b bs, brE w rows q k = b :: bs ∧ indent b = 4 * k ∧ (∀ x ∈ bs, indent x = 4 * k + 2) ∧ joinG (4 * k) (4 * k + 2) 0 [] (brE w rows q k) = (some (entAt rows q k), 0) := by
  obtain ⟨h1, h2⟩ := ent_ok M hq hk
  obtain ⟨G, g1, g2, g3, g4⟩ := brk_groups (W := w) (a := 4 * k) (b := 4 * k + 2) h1
  unfold brE
  rw [g4, L.join_lines _ _ g1 g2, g3, L.ic_words]
  cases G with
  | nil => exact absurd rfl g1
  | cons g r =>
    obtain ⟨a1, a2⟩ := g2 g (by simp)
    refine ⟨zeros (4 * k) ++ ic g, r.map fun g => zeros (4 * k + 2) ++ ic g, rfl, L.indent_line a1 a2, fun x hx => ?_, rfl⟩
    obtain ⟨g', hg', rfl⟩ := List.mem_map.1 hx
    obtain ⟨b1, b2⟩ := g2 g' (by simp [hg'])
    exact L.indent_line b1 b2
/-- what follows an entry does not go on with its second indent -/
theorem restN_head {w : Nat} {rows : List Row} (M : Md rows) {q k : Nat} (hq : q < rows.length) (hk : k < nc rows) : ∀ x t, restN w rows (nxt (nc rows) q k) = x :: t → indent x ≠ 4 * k + 2 := by
  have h1 := M.ev'.c1
  intro x t e
  unfold restN at e
  split at e
  · rename_i hq2
    unfold nxt at e hq2
    by_cases h : k + 1 = nc rows
    · rw [if_pos h] at e hq2
      rw [rest_step M hq2 (show 0 < nc rows by omega)] at e
      obtain ⟨b, bs, e1, e2, _⟩ := brE_lines (w := w) M hq2 (show 0 < nc rows by omega)
      rw [e1] at e
      simp only [List.cons_append, List.cons.injEq] at e
      rw [← e.1, e2]; omega
    · rw [if_neg h] at e hq2
      rw [rest_step M hq2 (show k + 1 < nc rows by omega)] at e
      obtain ⟨b, bs, e1, e2, _⟩ := brE_lines (w := w) M hq2 (show k + 1 < nc rows by omega)
      rw [e1] at e
      simp only [List.cons_append, List.cons.injEq] at e
      rw [← e.1, e2]; omega
  · cases e
end Go.Proofs.Ytfpkcjjgooigbaa.C
