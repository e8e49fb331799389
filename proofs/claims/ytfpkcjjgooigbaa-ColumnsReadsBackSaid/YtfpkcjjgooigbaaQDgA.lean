/-
  Chapter 20, plain: columns are read back.
-/
import Derived.Test.YtfpkcjjgooigbaaQDcA
namespace Go.Proofs.Ytfpkcjjgooigbaa.C
set_option linter.unusedSimpArgs false
set_option linter.unusedVariables false
set_option linter.unusedSectionVars false
open Go.Proofs.Ytfpkcjjgooigbaa.Am
open Go.Proofs.Ytfpkcjjgooigbaa.L (mixed wrap_ok I U CL CLL UCL Word clean words zeros ic wd brk brkG longG indent)
set_option maxHeartbeats 8000000
/-- behind each blank stands a cell that is none -/
def sep (x : Word) : Prop := ∀ p s : Word, x = p ++ 0 :: s → ∃ c t, s = c :: t ∧ c ≠ 0
theorem sep_tail {c : Int} {x : Word} (h : sep (c :: x)) : sep x := fun p s e => h (c :: p) s (by rw [e]; rfl)
theorem cl_sep {x : Word} (h : cl x = true) : sep x := by
  obtain ⟨_, _, _, h4, h5⟩ := (cl_iff x).1 h
  intro p s e
  subst e
  cases s with
  | nil => simp at h5
  | cons c t =>
    refine ⟨c, t, rfl, fun hc => ?_⟩
    subst hc
    refine h4 p.length (by simp) ?_
    rw [List.getElem?_append_right (by omega)]
    simp
theorem indent_pos {c : Int} (r : Word) (h : c ≠ 0) : indent (c :: r) = 0 := by unfold indent; rw [if_neg h]
theorem indent_zs (n : Nat) (y : Word) (hy : ∀ c t, y = c :: t → c ≠ 0) : indent (zeros n ++ y) = n := by
  rw [L.indent_zeros]
  cases y with
  | nil => rfl
  | cons c t => rw [indent_pos t (hy c t rfl)]; rfl
theorem piG_cons (n : Nat) (cur : Word) (c : Int) (r : Word) : piG (n + 1) cur (c :: r) = if 2 ≤ indent (c :: r) then cur :: piG n [] ((c :: r).drop (indent (c :: r))) else piG n (cur ++ [c]) r := rfl
/-- a piece, and what is behind it -/
theorem piG_piece {p : Nat} (hp : 2 ≤ p) {y : Word} (hy : ∀ c t, y = c :: t → c ≠ 0) : ∀ (x cur : Word) (n : Nat), sep x → x.length + p + y.length ≤ n → ∃ m, y.length ≤ m ∧ piG n cur (x ++ (zeros p ++ y)) = (cur ++ x) :: piG m [] y
  | [], cur, n, _, hn => by
    obtain ⟨q, rfl⟩ : ∃ q, p = q + 1 := ⟨p - 1, by omega⟩
    simp only [List.length_nil] at hn
    obtain ⟨m, rfl⟩ : ∃ m, n = m + 1 := ⟨n - 1, by omega⟩
    have hi := indent_zs (q + 1) y hy
    rw [List.nil_append, List.append_nil]
    have e : zeros (q + 1) ++ y = 0 :: (zeros q ++ y) := by simp [zeros, List.replicate_succ]
    rw [e] at hi ⊢
    rw [piG_cons, hi, if_pos hp]
    have e2 : (0 :: (zeros q ++ y)).drop (q + 1) = y := by rw [← e]; exact L.drop_line (q + 1) y
    rw [e2]
    exact ⟨m, by omega, rfl⟩
  | c :: r, cur, n, hs, hn => by
    simp only [List.length_cons] at hn
    obtain ⟨m, rfl⟩ : ∃ m, n = m + 1 := ⟨n - 1, by omega⟩
    have hi : ¬ 2 ≤ indent (c :: (r ++ (zeros p ++ y))) := by
      by_cases hc : c = 0
      · subst hc
        obtain ⟨d, t, rfl, hd⟩ := hs [] r rfl
        unfold indent
        rw [if_pos rfl, List.cons_append, indent_pos _ hd]; omega
      · rw [indent_pos _ hc]; omega
    rw [List.cons_append, piG_cons, if_neg hi]
    obtain ⟨m', h1, h2⟩ := piG_piece hp hy r (cur ++ [c]) m (sep_tail hs) (by omega)
    exact ⟨m', h1, by rw [h2]; simp⟩
theorem piG_last : ∀ (x cur : Word) (n : Nat), sep x → x.length ≤ n → piG n cur x = [cur ++ x]
  | [], cur, n, _, _ => by rw [piG_nil, List.append_nil]
  | c :: r, cur, n, hs, hn => by
    simp only [List.length_cons] at hn
    obtain ⟨m, rfl⟩ : ∃ m, n = m + 1 := ⟨n - 1, by omega⟩
    have hi : ¬ 2 ≤ indent (c :: r) := by
      by_cases hc : c = 0
      · subst hc
        obtain ⟨d, t, rfl, hd⟩ := hs [] r rfl
        unfold indent
        rw [if_pos rfl, indent_pos _ hd]; omega
      · rw [indent_pos _ hc]; omega
    rw [piG_cons, if_neg hi, piG_last r (cur ++ [c]) m (sep_tail hs) (by omega)]
    simp
/-- entries, padded -/
def padL : List (Word × Nat) → Word → Word
  | [], y => y
  | (x, p) :: l, y => x ++ (zeros p ++ padL l y)
theorem cl_head {x : Word} (h : cl x = true) : ∃ c t, x = c :: t ∧ c ≠ 0 := by
  obtain ⟨h1, _, h3, _, _⟩ := (cl_iff x).1 h
  cases x with
  | nil => exact absurd rfl h1
  | cons c t => exact ⟨c, t, rfl, fun e => h3 (by simp [e])⟩
theorem padL_head {l : List (Word × Nat)} {y : Word} (hl : ∀ q ∈ l, cl q.1 = true) (hy : cl y = true) : ∀ c t, padL l y = c :: t → c ≠ 0 := by
  intro c t e
  cases l with
  | nil => obtain ⟨d, s, rfl, hd⟩ := cl_head hy; simp only [padL, List.cons.injEq] at e; rw [← e.1]; exact hd
  | cons q l =>
    obtain ⟨d, s, hx, hd⟩ := cl_head (hl q (by simp))
    obtain ⟨x, p⟩ := q
    simp only at hx
    subst hx
    simp only [padL, List.cons_append, List.cons.injEq] at e
    rw [← e.1]; exact hd
theorem piG_pad : ∀ (l : List (Word × Nat)) (y : Word) (n : Nat), (∀ q ∈ l, cl q.1 = true ∧ 2 ≤ q.2) → cl y = true → (padL l y).length ≤ n → piG n [] (padL l y) = l.map (·.1) ++ [y]
  | [], y, n, _, hy, hn => by simp only [padL] at hn ⊢; rw [piG_last y [] n (cl_sep hy) hn]; rfl
  | (x, p) :: l, y, n, hl, hy, hn => by
    obtain ⟨h1, h2⟩ := hl (x, p) (by simp)
    have hl' : ∀ q ∈ l, cl q.1 = true ∧ 2 ≤ q.2 := fun q hq => hl q (by simp [hq])
    simp only [padL] at hn ⊢
    simp only [List.length_append, List.length_replicate] at hn
    obtain ⟨m, h3, h4⟩ := piG_piece h2 (padL_head (fun q hq => (hl' q hq).1) hy) x [] n (cl_sep h1) (by omega)
    rw [h4, piG_pad l y m hl' hy h3]; rfl
theorem padL_snoc : ∀ (l : List (Word × Nat)) (x y : Word) (p : Nat), padL (l ++ [(x, p)]) y = padL l (x ++ (zeros p ++ y))
  | [], x, y, p => rfl
  | (z, q) :: l, x, y, p => by simp only [List.cons_append, padL, padL_snoc l x y p]
theorem padL_app : ∀ (l : List (Word × Nat)) (x y : Word), padL l (x ++ y) = padL l x ++ y
  | [], x, y => rfl
  | (z, q) :: l, x, y => by simp only [padL, padL_app l x y, List.append_assoc]
/-- a line in columns, as padded entries -/
theorem colPre_pad (rows : List Row) (r : Row) (hr : r.length = nc rows) : ∀ k, k + 1 ≤ nc rows → colPre rows r k = padL ((r.take k).zipIdx.map fun q => (q.1, colW rows q.2 + 2 - q.1.length)) []
  | 0, _ => by simp [colPre, padL]
  | k + 1, h => by
    have ih := colPre_pad rows r hr k (by omega)
    have hk : k < r.length := by omega
    unfold colPre
    rw [if_pos (by omega), ih, List.getD_eq_getElem?_getD, List.getElem?_eq_getElem hk, Option.getD_some, List.take_succ_eq_append_getElem hk, List.zipIdx_append, List.map_append, List.length_take, Nat.zero_add]
    rw [show min k r.length = k by omega]
    show _ = padL (_ ++ [(r[k], colW rows k + 2 - r[k].length)]) []
    rw [padL_snoc, List.append_nil, ← List.nil_append (r[k] ++ zeros _), padL_app, List.append_assoc]
theorem zip_fst : ∀ (r : Row) (n : Nat) (f : Word × Nat → Nat), (r.zipIdx n).map (fun q => ((q.1, f q) : Word × Nat).1) = r
  | [], _, _ => rfl
  | x :: r, n, f => by rw [List.zipIdx_cons, List.map_cons, zip_fst r (n + 1) f]
theorem pieces_col {rows : List Row} (M : Md rows) {r : Row} (hr : r ∈ rows) : pieces (colPre rows r (nc rows)) = r := by
  obtain ⟨hl, hc⟩ := md_row M hr
  have E := M.ev'
  obtain ⟨j, hj, rfl⟩ := List.getElem_of_mem hr
  have h1 := E.c1
  obtain ⟨n, hn⟩ : ∃ n, nc rows = n + 1 := ⟨nc rows - 1, by omega⟩
  have hk : n < rows[j].length := by omega
  have hp := colPre_pad rows rows[j] hl n (by omega)
  have e : colPre rows rows[j] (nc rows) = padL ((rows[j].take n).zipIdx.map fun q => (q.1, colW rows q.2 + 2 - q.1.length)) rows[j][n] := by
    rw [hn]
    unfold colPre
    rw [if_neg (by omega), List.append_nil, List.getD_eq_getElem?_getD, List.getElem?_eq_getElem hk, Option.getD_some, hp, ← padL_app, List.nil_append]
  rw [e]
  unfold pieces
  rw [piG_pad _ _ _ (fun q hq => ?_) (hc _ (List.getElem_mem hk)) (Nat.le_refl _), List.map_map]
  · have : (List.map ((fun x => x.1) ∘ fun q => (q.1, colW rows q.2 + 2 - q.1.length)) (List.take n rows[j]).zipIdx) = List.take n rows[j] := zip_fst (List.take n rows[j]) 0 (fun q => colW rows q.2 + 2 - q.1.length)
    rw [this]
    conv => rhs; rw [← List.take_length (l := rows[j]), show rows[j].length = n + 1 by omega, List.take_succ_eq_append_getElem hk]
  · obtain ⟨q0, hq0, rfl⟩ := List.mem_map.1 hq
    obtain ⟨x, i⟩ := q0
    have hm := List.mem_zipIdx hq0
    obtain ⟨h2, h3, h4⟩ := hm
    simp only [List.length_take] at h3
    have hi : i < rows[j].length := by omega
    have hx : x = rows[j][i] := by rw [h4]; simp
    subst hx
    have hle := le_colW hj hi
    exact ⟨hc _ (List.getElem_mem hi), by dsimp only; omega⟩
theorem cols_back {rows : List Row} (M : Md rows) : (colsL rows).map pieces = rows := by
  unfold colsL
  rw [List.map_map]
  conv => rhs; rw [← List.map_id rows]
  exact List.map_congr_left fun r hr => pieces_col M hr
theorem okC_cols {rows : List Row} (M : Md rows) : okC (colsL rows) (nc rows) = true := by
  have E := M.ev'
  unfold okC
  rw [cols_back M, Bool.and_eq_true, List.all_eq_true, List.all_eq_true]
  constructor
  · intro x hx
    unfold colsL at hx
    obtain ⟨r, hr, rfl⟩ := List.mem_map.1 hx
    obtain ⟨h1, h2⟩ := md_row M hr
    unfold okPc
    rw [pieces_col M hr, Bool.and_eq_true, List.all_eq_true]
    exact ⟨decide_eq_true h1, h2⟩
  · intro x hx
    unfold colsL at hx
    obtain ⟨r, hr, rfl⟩ := List.mem_map.1 hx
    unfold okLn
    rw [pieces_col M hr]
    apply decide_eq_true
    obtain ⟨j, hj, rfl⟩ := List.getElem_of_mem hr
    have hl := E.all j hj
    have h1 := E.c1
    obtain ⟨n, hn⟩ : ∃ n, nc rows = n + 1 := ⟨nc rows - 1, by omega⟩
    have hk : n < rows[j].length := by omega
    have h2 := colPre_eq E hj n (by omega)
    unfold aheadN
    rw [hn, Nat.add_sub_cancel, List.getD_eq_getElem?_getD, List.getElem?_eq_getElem hk, Option.getD_some]
    unfold colPre
    rw [if_neg (by omega), List.append_nil, List.getD_eq_getElem?_getD, List.getElem?_eq_getElem hk, Option.getD_some, List.length_append, h2]
    omega
end Go.Proofs.Ytfpkcjjgooigbaa.C
