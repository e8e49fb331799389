/-
  Chapter 20, plain: lines are not empty, not too long, and end with no blank; some of the rows.
-/
import Derived.Test.YtfpkcjjgooigbaaQDbA
namespace Go.Proofs.Ytfpkcjjgooigbaa.C
set_option linter.unusedSimpArgs false
set_option linter.unusedVariables false
set_option linter.unusedSectionVars false
open Go.Proofs.Ytfpkcjjgooigbaa.Am
open Go.Proofs.Ytfpkcjjgooigbaa.L (mixed wrap_ok I U CL CLL UCL Word clean words zeros ic wd brk brkG longG)
set_option maxHeartbeats 8000000
/-- ends with no blank -/
def endL (x : Word) : Prop := ∃ p c, x = p ++ [c] ∧ c ≠ 0
def okL (W : Nat) (x : Word) : Prop := x.length ≤ W ∧ endL x
theorem endL_app (p : Word) {x : Word} (h : endL x) : endL (p ++ x) := by
  obtain ⟨q, c, rfl, hc⟩ := h
  exact ⟨p ++ q, c, by simp, hc⟩
theorem wd_end {w : Word} (h : wd w) : endL w := by
  obtain ⟨h1, h2⟩ := h
  refine ⟨w.dropLast, w.getLast h1, (List.dropLast_concat_getLast h1).symm, (h2 _ (List.getLast_mem h1)).1⟩
theorem cl_end {x : Word} (h : cl x = true) : endL x := by
  obtain ⟨h1, _, _, _, h5⟩ := (cl_iff x).1 h
  refine ⟨x.dropLast, x.getLast h1, (List.dropLast_concat_getLast h1).symm, fun e => h5 ?_⟩
  rw [List.getLast?_eq_some_getLast h1, e]
theorem brkG_lines {W i1 : Nat} : ∀ (ws : List Word) (cur : Word), (∀ w ∈ ws, wd w ∧ i1 + w.length ≤ W) → okL W cur → ∀ x ∈ brkG W i1 cur ws, okL W x
  | [], cur, _, h, x, hx => by
    simp [brkG] at hx; subst hx; exact h
  | w :: r, cur, hw, h, x, hx => by
    obtain ⟨w1, w2⟩ := hw w (by simp)
    unfold brkG at hx
    split at hx
    · rcases List.mem_cons.1 hx with rfl | hx
      · exact h
      · exact brkG_lines r _ (fun v hv => hw v (by simp [hv])) ⟨by simp; omega, endL_app _ (wd_end w1)⟩ x hx
    · exact brkG_lines r _ (fun v hv => hw v (by simp [hv])) ⟨by simp; omega, by
        have := endL_app (cur ++ [0]) (wd_end w1)
        simpa using this⟩ x hx
theorem brk_lines {W k : Nat} {x : Word} (hx : cl x = true) (hf : fitB W k x = true) : ∀ y ∈ brk W (4 * k) (4 * k + 2) (words x), okL W y := by
  have hw := L.clean_words hx
  have hf' := fitB_words.1 hf
  cases hws : words x with
  | nil => exact absurd hws (L.wordsG_ne x [])
  | cons w r =>
    rw [hws] at hw hf'
    have h1 := hw w (by simp)
    have h2 := hf' w (by simp)
    exact brkG_lines r _ (fun v hv => ⟨hw v (by simp [hv]), by have := hf' v (by simp [hv]); omega⟩) ⟨by simp; omega, endL_app _ (wd_end h1)⟩
theorem flat_all {f : Row → List Word} {p : Word → Prop} {l : List Row} (h : ∀ r ∈ l, ∀ x ∈ f r, p x) : ∀ x ∈ (l.map f).flatten, p x := fun x hx => by
  rw [List.mem_flatten] at hx
  obtain ⟨q, hq, hx⟩ := hx
  obtain ⟨r, hr, rfl⟩ := List.mem_map.1 hq
  exact h r hr x hx
theorem list_lines {rows : List Row} (M : Md rows) {W : Nat} (hf : rows.all (fitR W) = true) : ∀ x ∈ listL W rows, okL W x := by
  refine flat_all fun r hr => ?_
  have hr1 := (List.all_eq_true.1 hf) r hr
  unfold fitR at hr1
  rw [List.all_eq_true] at hr1
  have key : ∀ k, k ≤ r.length → ∀ x ∈ listPre W r k, okL W x := by
    intro k
    induction k with
    | zero => intro _ x hx; simp [listPre] at hx
    | succ k ih =>
      intro hk x hx
      unfold listPre at hx
      rcases List.mem_append.1 hx with hx | hx
      · exact ih (by omega) x hx
      · have h1 := hr1 k (List.mem_range.2 (by omega))
        rw [List.getD_eq_getElem?_getD, List.getElem?_eq_getElem (by omega), Option.getD_some] at h1 hx
        exact brk_lines ((md_row M hr).2 _ (List.getElem_mem _)) h1 x hx
  exact key _ (Nat.le_refl _)
theorem stairs_lines {rows : List Row} (M : Md rows) : ∀ x ∈ stairsL rows, endL x := by
  refine flat_all fun r hr => ?_
  have key : ∀ k, k ≤ r.length → ∀ x ∈ stairPre r k, endL x := by
    intro k
    induction k with
    | zero => intro _ x hx; simp [stairPre] at hx
    | succ k ih =>
      intro hk x hx
      unfold stairPre at hx
      rcases List.mem_append.1 hx with hx | hx
      · exact ih (by omega) x hx
      · rw [List.getD_eq_getElem?_getD, List.getElem?_eq_getElem (by omega), Option.getD_some, List.mem_singleton] at hx
        subst hx
        exact endL_app _ (cl_end ((md_row M hr).2 _ (List.getElem_mem _)))
  exact key _ (Nat.le_refl _)
theorem colPre_eq {rows : List Row} (E : Ev rows) {j : Nat} (hj : j < rows.length) : ∀ k, k + 1 ≤ nc rows → (colPre rows rows[j] k).length = sumW rows k + 2 * k
  | 0, _ => rfl
  | k + 1, h => by
    have ih := colPre_eq E hj k (by omega)
    have hk : k < rows[j].length := by rw [E.all j hj]; omega
    have hle := le_colW hj hk
    unfold colPre sumW
    rw [if_pos (by omega), List.getD_eq_getElem?_getD, List.getElem?_eq_getElem hk, Option.getD_some, List.length_append, List.length_append, List.length_replicate, ih]
    omega
theorem cols_lines {rows : List Row} (M : Md rows) : ∀ x ∈ colsL rows, okL (widthN rows) x := by
  intro x hx
  unfold colsL at hx
  obtain ⟨r, hr, rfl⟩ := List.mem_map.1 hx
  have E := M.ev'
  have hc := (md_row M hr).2
  obtain ⟨j, hj, rfl⟩ := List.getElem_of_mem hr
  have h1 := E.c1
  obtain ⟨n, hn⟩ : ∃ n, nc rows = n + 1 := ⟨nc rows - 1, by omega⟩
  have hk : n < rows[j].length := by rw [E.all j hj]; omega
  have h2 := colPre_eq E hj n (by omega)
  have h3 := le_colW hj hk
  unfold widthN
  rw [hn]
  unfold colPre sumW
  rw [if_neg (by omega), List.append_nil, List.getD_eq_getElem?_getD, List.getElem?_eq_getElem hk, Option.getD_some]
  exact ⟨by rw [List.length_append, h2]; omega, endL_app _ (cl_end (hc _ (List.getElem_mem _)))⟩
theorem lines {rows : List Row} (M : Md rows) {w : Nat} (h : 24 ≤ w ∧ w ≤ 60) {a : Res} (ha : layR rows w = a) :
    (a.e ≠ 0 → a.L = [] ∧ a.form = 0) ∧ (a.e = 0 → ((a.form = 1 ∧ a.L.length = rows.length) ∨ (a.form = 2 ∧ a.L.length = rows.length * nc rows) ∨ (a.form = 3 ∧ rows.length * nc rows ≤ a.L.length)) ∧ ∀ x ∈ a.L, okL w x) := by
  rw [layR_md M h] at ha
  split at ha
  · rename_i t1
    subst ha
    refine ⟨by simp, fun _ => ⟨.inl ⟨rfl, by simp [colsL]⟩, fun x hx => ?_⟩⟩
    obtain ⟨q1, q2⟩ := cols_lines M x hx
    exact ⟨by omega, q2⟩
  split at ha
  · rename_i t2
    subst ha
    exact ⟨by simp, fun _ => ⟨.inr (.inl ⟨rfl, stairs_len M⟩), fun x hx => ⟨((longest_le _ 0 w).1 t2).2 x hx, stairs_lines M x hx⟩⟩⟩
  split at ha
  · rename_i t3
    subst ha
    exact ⟨by simp, fun _ => ⟨.inr (.inr ⟨rfl, list_ge M w⟩), list_lines M t3⟩⟩
  · subst ha
    exact ⟨fun _ => ⟨rfl, rfl⟩, by simp⟩
/-! some of the rows -/
theorem md_take {rows : List Row} (M : Md rows) {k : Nat} (h1 : 1 ≤ k) (h2 : k ≤ rows.length) : Md (rows.take k) ∧ nc (rows.take k) = nc rows := by
  have hl : (rows.take k).length = k := by rw [List.length_take]; omega
  have n4 := M.n4
  refine ⟨md_of (c := nc rows) (by omega) (by omega) ⟨M.ev'.c1, M.ev'.c4⟩ fun r hr => ?_, ?_⟩
  · have hr' := List.mem_of_mem_take hr
    obtain ⟨q1, q2⟩ := md_row M hr'
    exact ⟨q1, fun x hx => ⟨q2 x hx, M.le r hr' x hx⟩⟩
  · unfold nc
    rw [List.getD_eq_getElem?_getD, List.getElem?_take, if_pos (by omega), ← List.getD_eq_getElem?_getD]
theorem foldMax_app {f : Row → Nat} : ∀ (l : List Row) (a b : Nat), a ≤ b → a ≤ l.foldl (fun m r => max m (f r)) b
  | [], a, b, h => h
  | r :: l, a, b, h => by rw [List.foldl_cons]; exact foldMax_app l _ _ (by omega)
theorem colW_take (rows : List Row) (k j : Nat) : colW (rows.take k) j ≤ colW rows j := by
  unfold colW
  conv => rhs; rw [← List.take_append_drop k rows]
  rw [List.foldl_append]
  exact foldMax_app (f := fun r => (r.getD j []).length) _ _ _ (Nat.le_refl _)
theorem sumW_take (rows : List Row) (k : Nat) : ∀ j, sumW (rows.take k) j ≤ sumW rows j
  | 0 => Nat.le_refl _
  | j + 1 => by
    have h1 := sumW_take rows k j
    have h2 := colW_take rows k j
    unfold sumW; omega
theorem flat_pre {f : Row → List Word} (l : List Row) (k : Nat) : ((l.take k).map f).flatten = (l.map f).flatten.take ((l.take k).map f).flatten.length := by
  have e : (l.map f).flatten = ((l.take k).map f).flatten ++ ((l.drop k).map f).flatten := by
    rw [← List.flatten_append, ← List.map_append, List.take_append_drop]
  rw [e, List.take_append_of_le_length (Nat.le_refl _), List.take_length]
theorem some_rows {rows : List Row} (M : Md rows) {w k : Nat} (h : 24 ≤ w ∧ w ≤ 60) (h1 : 1 ≤ k) (h2 : k ≤ rows.length) {a b : Res} (ha : layR rows w = a) (hb : layR (rows.take k) w = b) (he : a.e = 0) :
    b.e = 0 ∧ b.form ≤ a.form ∧ b.L.length ≤ a.L.length ∧ (a.form ≠ 1 → b.form = a.form → b.L = a.L.take b.L.length) := by
  obtain ⟨M', hnc⟩ := md_take M h1 h2
  rw [layR_md M h] at ha
  rw [layR_md M' h] at hb
  have hl : (rows.take k).length = k := by rw [List.length_take]; omega
  have c1 : rows.length ≤ rows.length * nc rows := Nat.le_mul_of_pos_right _ M.ev'.c1
  have c0 : k * nc rows ≤ rows.length * nc rows := Nat.mul_le_mul_right _ h2
  have c2 := stairs_len M
  have c3 := list_ge M w
  have c5 : (colsL rows).length = rows.length := by simp [colsL]
  have d2 := stairs_len M'
  have d5 : (colsL (rows.take k)).length = k := by simp [colsL]; omega
  rw [hl, hnc] at d2
  have e1 : widthN (rows.take k) ≤ widthN rows := by unfold widthN; rw [hnc]; have := sumW_take rows k (nc rows); omega
  have e2 : stairsL (rows.take k) = (stairsL rows).take (stairsL (rows.take k)).length := flat_pre rows k
  have e3 : listL w (rows.take k) = (listL w rows).take (listL w (rows.take k)).length := flat_pre rows k
  have f2 : longest (stairsL rows) ≤ w → longest (stairsL (rows.take k)) ≤ w := fun hh => by
    have := ((longest_le _ 0 w).1 hh).2
    refine (longest_le _ 0 w).2 ⟨Nat.zero_le _, fun x hx => this x ?_⟩
    rw [e2] at hx
    exact List.mem_of_mem_take hx
  have f3 : rows.all (fitR w) = true → (rows.take k).all (fitR w) = true := fun hh => by
    rw [List.all_eq_true] at hh ⊢
    exact fun r hr => hh r (List.mem_of_mem_take hr)
  have e4 : (listL w (rows.take k)).length ≤ (listL w rows).length := by
    have := congrArg List.length e3
    rw [List.length_take] at this; omega
  have e5 : (stairsL (rows.take k)).length ≤ (stairsL rows).length := by omega
  by_cases t1 : widthN rows ≤ w
  · rw [if_pos t1] at ha
    rw [if_pos (by omega)] at hb
    subst ha hb
    simp; omega
  rw [if_neg t1] at ha
  by_cases t2 : longest (stairsL rows) ≤ w
  · rw [if_pos t2] at ha
    rw [if_pos (f2 t2)] at hb
    subst ha
    split at hb
    · subst hb; exact ⟨rfl, by dsimp only; omega, by dsimp only; omega, fun _ h => by simp at h⟩
    · subst hb; exact ⟨rfl, Int.le_refl _, e5, fun _ _ => e2⟩
  rw [if_neg t2] at ha
  by_cases t3 : rows.all (fitR w) = true
  · rw [if_pos t3] at ha
    rw [if_pos (f3 t3)] at hb
    subst ha
    split at hb
    · subst hb; exact ⟨rfl, by dsimp only; omega, by dsimp only; omega, fun _ h => by simp at h⟩
    · split at hb
      · subst hb; exact ⟨rfl, by dsimp only; omega, by dsimp only; omega, fun _ h => by simp at h⟩
      · subst hb; exact ⟨rfl, Int.le_refl _, e4, fun _ _ => e3⟩
  · rw [if_neg t3] at ha
    subst ha; simp at he
end Go.Proofs.Ytfpkcjjgooigbaa.C
