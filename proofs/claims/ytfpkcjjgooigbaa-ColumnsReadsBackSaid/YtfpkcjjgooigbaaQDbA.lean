/-
  Chapter 20, plain: what the lines are like; widths; some of the rows.
-/
import Derived.Test.YtfpkcjjgooigbaaQDaA
namespace Go.Proofs.Ytfpkcjjgooigbaa.C
set_option linter.unusedSimpArgs false
set_option linter.unusedVariables false
set_option linter.unusedSectionVars false
open Go.Proofs.Ytfpkcjjgooigbaa.Am
open Go.Proofs.Ytfpkcjjgooigbaa.L (mixed wrap_ok I U CL CLL UCL Word clean words zeros ic wd brk brkG longG)
set_option maxHeartbeats 8000000
theorem layR_md {rows : List Row} (M : Md rows) {w : Nat} (h : 24 ≤ w ∧ w ≤ 60) : layR rows w = if widthN rows ≤ w then ⟨colsL rows, 1, 0⟩ else if longest (stairsL rows) ≤ w then ⟨stairsL rows, 2, 0⟩ else if rows.all (fitR w) = true then ⟨listL w rows, 3, 0⟩ else ⟨[], 0, 181⟩ := by
  unfold layR
  rw [if_neg (by omega), if_neg (by rw [M.ev]; simp), if_neg (by rw [M.cl]; simp)]
  simp only [Int.toNat_natCast, Int.ofNat_le]
/-- the rows one by one -/
theorem md_row {rows : List Row} (M : Md rows) {r : Row} (hr : r ∈ rows) : r.length = nc rows ∧ ∀ x ∈ r, cl x = true := by
  obtain ⟨j, hj, rfl⟩ := List.getElem_of_mem hr
  refine ⟨M.ev'.all j hj, fun x hx => ?_⟩
  have := M.cl
  unfold clB at this
  rw [List.all_eq_true] at this
  have := this _ hr
  rw [List.all_eq_true] at this
  exact this x hx
theorem stairPre_all (r : Row) : ∀ k, (stairPre r k).length = k
  | 0 => rfl
  | k + 1 => by unfold stairPre; rw [List.length_append, stairPre_all r k]; rfl
theorem flat_len {f : Row → List Word} {n : Nat} : ∀ {l : List Row}, (∀ r ∈ l, (f r).length = n) → (l.map f).flatten.length = l.length * n
  | [], _ => by simp
  | r :: l, h => by
    rw [List.map_cons, List.flatten_cons, List.length_append, h r (by simp), flat_len fun x hx => h x (by simp [hx]), List.length_cons, Nat.add_mul]; omega
theorem flat_ge {f : Row → List Word} {n : Nat} : ∀ {l : List Row}, (∀ r ∈ l, n ≤ (f r).length) → l.length * n ≤ (l.map f).flatten.length
  | [], _ => by simp
  | r :: l, h => by
    have h1 := h r (by simp)
    have h2 := flat_ge (f := f) (n := n) (l := l) fun x hx => h x (by simp [hx])
    rw [List.map_cons, List.flatten_cons, List.length_append, List.length_cons, Nat.add_mul]; omega
theorem flat_le {f g : Row → List Word} : ∀ {l : List Row}, (∀ r ∈ l, (f r).length ≤ (g r).length) → (l.map f).flatten.length ≤ (l.map g).flatten.length
  | [], _ => by simp
  | r :: l, h => by
    have h1 := h r (by simp)
    have h2 := flat_le (f := f) (g := g) (l := l) fun x hx => h x (by simp [hx])
    rw [List.map_cons, List.map_cons, List.flatten_cons, List.flatten_cons, List.length_append, List.length_append]; omega
theorem stairs_len {rows : List Row} (M : Md rows) : (stairsL rows).length = rows.length * nc rows :=
  flat_len fun r hr => by rw [stairPre_all, (md_row M hr).1]
theorem listPre_ge (w : Nat) (r : Row) : ∀ k, k ≤ (listPre w r k).length
  | 0 => Nat.zero_le _
  | k + 1 => by
    have h1 := listPre_ge w r k
    have h2 : 0 < (brk w (4 * k) (4 * k + 2) (words (r.getD k []))).length := List.length_pos_iff.2 (C.brk_ne w (4 * k) (4 * k + 2) (r.getD k []))
    unfold listPre
    rw [List.length_append]; omega
theorem list_ge {rows : List Row} (M : Md rows) (w : Nat) : rows.length * nc rows ≤ (listL w rows).length :=
  flat_ge fun r hr => by have := listPre_ge w r r.length; rw [(md_row M hr).1] at this ⊢; exact this
/-! wider lines -/
theorem brkG_mono {W W' i1 : Nat} (hW : W ≤ W') : ∀ (ws : List Word) (cur cur' : Word) (n n' : Nat), i1 ≤ cur.length + 1 → (n' < n ∨ n' = n ∧ cur'.length ≤ cur.length) → n' + (brkG W' i1 cur' ws).length ≤ n + (brkG W i1 cur ws).length
  | [], cur, cur', n, n', _, h => by simp only [brkG, List.length_cons, List.length_nil]; omega
  | w :: r, cur, cur', n, n', hc, h => by
    unfold brkG
    by_cases c1 : W' < cur'.length + 1 + w.length
    · rw [if_pos c1]
      by_cases c2 : W < cur.length + 1 + w.length
      · rw [if_pos c2]
        have := brkG_mono hW (i1 := i1) r (zeros i1 ++ w) (zeros i1 ++ w) (n + 1) (n' + 1) (by simp; omega) (by omega)
        simp only [List.length_cons]; omega
      · rw [if_neg c2]
        have := brkG_mono hW (i1 := i1) r (cur ++ 0 :: w) (zeros i1 ++ w) n (n' + 1) (by simp; omega) (by
          simp only [List.length_append, List.length_replicate, List.length_cons]
          omega)
        simp only [List.length_cons]; omega
    · rw [if_neg c1]
      by_cases c2 : W < cur.length + 1 + w.length
      · rw [if_pos c2]
        have := brkG_mono hW (i1 := i1) r (zeros i1 ++ w) (cur' ++ 0 :: w) (n + 1) n' (by simp; omega) (by omega)
        simp only [List.length_cons]; omega
      · rw [if_neg c2]
        exact brkG_mono hW (i1 := i1) r (cur ++ 0 :: w) (cur' ++ 0 :: w) n n' (by simp; omega) (by simp only [List.length_append, List.length_cons]; omega)
theorem brk_mono {W W' k : Nat} (hW : W ≤ W') {x : Word} (hx : cl x = true) : (brk W' (4 * k) (4 * k + 2) (words x)).length ≤ (brk W (4 * k) (4 * k + 2) (words x)).length := by
  have hw := L.clean_words hx
  cases hws : words x with
  | nil => exact absurd hws (L.wordsG_ne x [])
  | cons w r =>
    have h1 : w ≠ [] := (hw w (by rw [hws]; simp)).1
    have h2 := List.length_pos_iff.2 h1
    have := brkG_mono hW (i1 := 4 * k + 2) r (zeros (4 * k) ++ w) (zeros (4 * k) ++ w) 0 0 (by simp; omega) (by omega)
    simp only [brk]
    omega
theorem listPre_mono {W W' : Nat} (hW : W ≤ W') {r : Row} (hr : ∀ x ∈ r, cl x = true) : ∀ k, k ≤ r.length → (listPre W' r k).length ≤ (listPre W r k).length
  | 0, _ => by simp [listPre]
  | k + 1, h => by
    have h1 := listPre_mono hW hr k (by omega)
    have h2 := brk_mono hW (k := k) (hr r[k] (List.getElem_mem _))
    unfold listPre
    rw [List.getD_eq_getElem?_getD, List.getElem?_eq_getElem (by omega), Option.getD_some, List.length_append, List.length_append]
    omega
theorem list_mono {rows : List Row} (M : Md rows) {W W' : Nat} (hW : W ≤ W') : (listL W' rows).length ≤ (listL W rows).length :=
  flat_le fun r hr => listPre_mono hW (md_row M hr).2 _ (Nat.le_refl _)
theorem fitB_words {w k : Nat} {x : Word} : fitB w k x = true ↔ ∀ v ∈ words x, ((4 * k + 2 + v.length : Nat) : Int) ≤ w := by
  unfold fitB
  rw [decide_eq_true_iff]
  constructor
  · intro h v hv
    have := L.longG_neg (Int.le_refl 0) h v hv
    omega
  · intro h
    rw [L.longG_of fun v hv => by have := h v hv; omega]; omega
theorem fitR_mono {W W' : Nat} (hW : W ≤ W') {r : Row} (h : fitR W r = true) : fitR W' r = true := by
  unfold fitR at h ⊢
  rw [List.all_eq_true] at h ⊢
  intro k hk
  have := fitB_words.1 (h k hk)
  exact fitB_words.2 fun v hv => by have := this v hv; omega
theorem fit_mono {rows : List Row} {W W' : Nat} (hW : W ≤ W') (h : rows.all (fitR W) = true) : rows.all (fitR W') = true := by
  rw [List.all_eq_true] at h ⊢
  exact fun r hr => fitR_mono hW (h r hr)
theorem widens {rows : List Row} (M : Md rows) {w w' : Nat} (h : 24 ≤ w) (h2 : w ≤ w') (h3 : w' ≤ 60) {a b : Res} (ha : layR rows w = a) (hb : layR rows w' = b) :
    (a.e ≠ 0 → a.e = 181 ∧ (b.e = 0 ∨ b.e = 181)) ∧ (a.e = 0 → b.e = 0 ∧ b.form ≤ a.form ∧ b.L.length ≤ a.L.length) := by
  rw [layR_md M (by omega)] at ha hb
  have c1 : rows.length ≤ rows.length * nc rows := Nat.le_mul_of_pos_right _ M.ev'.c1
  have c2 := stairs_len M
  have c3 := list_ge M w
  have c4 := list_mono M h2
  have c5 : (colsL rows).length = rows.length := by simp [colsL]
  by_cases t1 : widthN rows ≤ w
  · rw [if_pos t1] at ha
    rw [if_pos (by omega)] at hb
    subst ha hb
    simp
  rw [if_neg t1] at ha
  by_cases t2 : longest (stairsL rows) ≤ w
  · rw [if_pos t2] at ha
    rw [if_pos (show longest (stairsL rows) ≤ w' by omega)] at hb
    subst ha
    split at hb <;> subst hb <;> simp <;> omega
  rw [if_neg t2] at ha
  by_cases t3 : rows.all (fitR w) = true
  · rw [if_pos t3] at ha
    rw [if_pos (fit_mono h2 t3)] at hb
    subst ha
    split at hb
    · subst hb; simp; omega
    · split at hb <;> subst hb <;> simp <;> omega
  · rw [if_neg t3] at ha
    subst ha
    refine ⟨fun _ => ⟨rfl, ?_⟩, fun h => by simp at h⟩
    split at hb
    · subst hb; exact .inl rfl
    · split at hb
      · subst hb; exact .inl rfl
      · split at hb <;> subst hb
        · exact .inl rfl
        · exact .inr rfl
end Go.Proofs.Ytfpkcjjgooigbaa.C
