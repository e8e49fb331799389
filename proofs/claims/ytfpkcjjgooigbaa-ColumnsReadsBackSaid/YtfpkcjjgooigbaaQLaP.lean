/-
  Chapter 18, plain: cells, words, lines.
-/
import Derived.KernelRfl
namespace Go.Proofs.Ytfpkcjjgooigbaa.L
set_option linter.unusedSimpArgs false
set_option linter.unusedVariables false
set_option linter.unusedSectionVars false
abbrev Word := List Int
/-- the cell at which a list is not clean, else its length -/
def cleanG : Nat → Bool → Word → Int × Bool
  | i, pb, [] => if i = 0 then (0, false) else if pb then ((i : Int) - 1, false) else ((i : Int), true)
  | i, pb, c :: r => if 63 < c ∨ (c = 0 ∧ pb = true) then ((i : Int), false) else cleanG (i + 1) (decide (c = 0)) r
def clean (l : Word) : Int × Bool := cleanG 0 true l
def wordsG : Word → Word → List Word
  | w, [] => [w]
  | w, c :: r => if c = 0 then w :: wordsG [] r else wordsG (w ++ [c]) r
def words (l : Word) : List Word := wordsG [] l
def ic : List Word → Word
  | [] => []
  | [w] => w
  | w :: v :: r => w ++ 0 :: ic (v :: r)
theorem ic_cons (w : Word) {l : List Word} (h : l ≠ []) : ic (w :: l) = w ++ 0 :: ic l := by
  cases l with
  | nil => exact absurd rfl h
  | cons v r => rfl
theorem ic_snoc (w : Word) : ∀ {l : List Word}, l ≠ [] → ic (l ++ [w]) = ic l ++ 0 :: w
  | [v], _ => rfl
  | v :: u :: r, _ => by
    have := ic_snoc w (l := u :: r) (by simp)
    show v ++ 0 :: ic (u :: r ++ [w]) = _
    rw [this]; simp [ic]
theorem ic_append : ∀ {l m : List Word}, l ≠ [] → m ≠ [] → ic (l ++ m) = ic l ++ 0 :: ic m
  | [v], m, _, hm => ic_cons v hm
  | v :: u :: r, m, _, hm => by
    have := ic_append (l := u :: r) (by simp) hm
    show v ++ 0 :: ic (u :: r ++ m) = _
    rw [this]; simp [ic]
theorem wordsG_ne : ∀ (l w : Word), wordsG w l ≠ []
  | [], w => by simp [wordsG]
  | c :: r, w => by
    unfold wordsG; split
    · simp
    · exact wordsG_ne r _
theorem ic_wordsG : ∀ (l w : Word), ic (wordsG w l) = w ++ l
  | [], w => by simp [wordsG, ic]
  | c :: r, w => by
    unfold wordsG; split
    · rename_i h; rw [ic_cons _ (wordsG_ne r []), ic_wordsG r []]; simp [h]
    · rw [ic_wordsG r]; simp
theorem ic_words (l : Word) : ic (words l) = l := by simp [words, ic_wordsG]
/-- a word: cells that are no blanks -/
def wd (w : Word) : Prop := w ≠ [] ∧ ∀ c ∈ w, c ≠ 0 ∧ c ≤ 63
theorem clean_wordsG : ∀ (l w : Word) (i : Nat) (pb : Bool), (cleanG i pb l).2 = true → (pb = true ↔ w = []) → (∀ c ∈ w, c ≠ 0 ∧ c ≤ 63) → ∀ v ∈ wordsG w l, wd v
  | [], w, i, pb, h, hp, hw, v, hv => by
    simp [wordsG] at hv; subst hv
    unfold cleanG at h
    split at h
    · cases h
    · split at h
      · cases h
      · rename_i h2; exact ⟨fun e => h2 (hp.2 e), hw⟩
  | c :: r, w, i, pb, h, hp, hw, v, hv => by
    unfold cleanG at h
    split at h
    · cases h
    · rename_i hc
      unfold wordsG at hv
      by_cases h0 : c = 0
      · subst h0
        rw [if_pos rfl] at hv
        have hpb : pb ≠ true := fun e => hc (.inr ⟨rfl, e⟩)
        rcases List.mem_cons.1 hv with rfl | hv
        · exact ⟨fun e => hpb (hp.2 e), hw⟩
        · exact clean_wordsG r [] (i + 1) _ h (by simp) (by simp) v hv
      · rw [if_neg h0] at hv
        refine clean_wordsG r (w ++ [c]) (i + 1) _ h (by simp [h0]) (fun d hd => ?_) v hv
        rcases List.mem_append.1 hd with hd | hd
        · exact hw d hd
        · simp at hd; subst hd
          exact ⟨h0, by
            have : ¬ 63 < d := fun e => hc (.inl e)
            omega⟩
theorem clean_words {l : Word} (h : (clean l).2 = true) : ∀ v ∈ words l, wd v := clean_wordsG l [] 0 true h (by simp) (by simp)
theorem cleanG_word : ∀ (w r : Word) (i : Nat) (pb : Bool), w ≠ [] → (∀ c ∈ w, c ≠ 0 ∧ c ≤ 63) → cleanG i pb (w ++ r) = cleanG (i + w.length) false r
  | [c], r, i, pb, _, h => by
    have := h c (by simp)
    show cleanG i pb (c :: r) = _
    unfold cleanG
    rw [if_neg (by rintro (h1 | h1) <;> omega)]
    simp [this.1]
    cases r <;> rfl
  | c :: d :: w, r, i, pb, _, h => by
    have := h c (by simp)
    show cleanG i pb (c :: (d :: w ++ r)) = _
    rw [cleanG, if_neg (by rintro (h1 | h1) <;> omega), cleanG_word (d :: w) r (i + 1) _ (by simp) (fun x hx => h x (by simp [hx]))]
    congr 1
    simp; omega
theorem cleanG_ic : ∀ (ws : List Word) (i : Nat) (pb : Bool), ws ≠ [] → (∀ w ∈ ws, wd w) → cleanG i pb (ic ws) = (((i + (ic ws).length : Nat) : Int), true)
  | [w], i, pb, _, h => by
    obtain ⟨h1, h2⟩ := h w (by simp)
    have := cleanG_word w [] i pb h1 h2
    rw [List.append_nil] at this
    show cleanG i pb w = _
    rw [this]
    have hl : w.length ≠ 0 := by simpa using h1
    unfold cleanG
    rw [if_neg (by omega)]; rfl
  | w :: v :: r, i, pb, _, h => by
    obtain ⟨h1, h2⟩ := h w (by simp)
    show cleanG i pb (w ++ 0 :: ic (v :: r)) = _
    rw [cleanG_word w _ i pb h1 h2, cleanG, if_neg (by simp), cleanG_ic (v :: r) _ _ (by simp) (fun x hx => h x (by simp [hx]))]
    simp [ic]; omega
theorem clean_ic {ws : List Word} (h0 : ws ≠ []) (h : ∀ w ∈ ws, wd w) : clean (ic ws) = (((ic ws).length : Int), true) := by
  rw [clean, cleanG_ic ws 0 true h0 h]; simp
/-- the words of words that are set apart by blanks -/
theorem wordsG_word : ∀ (w v r : Word), (∀ c ∈ w, c ≠ 0) → wordsG v (w ++ r) = wordsG (v ++ w) r
  | [], v, r, _ => by simp
  | c :: w, v, r, h => by
    show wordsG v (c :: (w ++ r)) = _
    rw [wordsG, if_neg (h c (by simp)), wordsG_word w (v ++ [c]) r (fun x hx => h x (by simp [hx]))]
    simp
theorem words_ic : ∀ (ws : List Word), ws ≠ [] → (∀ w ∈ ws, ∀ c ∈ w, c ≠ 0) → words (ic ws) = ws
  | [w], _, h => by
    have := wordsG_word w [] [] (h w (by simp))
    rw [List.append_nil] at this
    show wordsG [] w = _
    rw [this]; simp [wordsG]
  | w :: v :: r, _, h => by
    show wordsG [] (w ++ 0 :: ic (v :: r)) = _
    rw [wordsG_word w [] _ (h w (by simp)), wordsG, if_pos rfl]
    have := words_ic (v :: r) (by simp) (fun x hx => h x (by simp [hx]))
    unfold words at this
    rw [this]; simp
/-! lines -/
abbrev zeros (n : Nat) : Word := List.replicate n 0
def brkG (W i1 : Nat) : Word → List Word → List Word
  | cur, [] => [cur]
  | cur, w :: r => if W < cur.length + 1 + w.length then cur :: brkG W i1 (zeros i1 ++ w) r else brkG W i1 (cur ++ 0 :: w) r
def brk (W i0 i1 : Nat) : List Word → List Word
  | [] => []
  | w :: r => brkG W i1 (zeros i0 ++ w) r
/-- the groups of words of which the lines consist; n: the current line's length, g: its words -/
def grp (W i1 : Nat) : Nat → List Word → List Word → List (List Word)
  | _, g, [] => [g]
  | n, g, w :: r => if W < n + 1 + w.length then g :: grp W i1 (i1 + w.length) [w] r else grp W i1 (n + 1 + w.length) (g ++ [w]) r
def linesOf (k i1 : Nat) : List (List Word) → List Word
  | [] => []
  | g :: r => (zeros k ++ ic g) :: r.map fun g => zeros i1 ++ ic g
theorem brk_grp (W i1 : Nat) : ∀ (ws : List Word) (k : Nat) (g : List Word), g ≠ [] → brkG W i1 (zeros k ++ ic g) ws = linesOf k i1 (grp W i1 (k + (ic g).length) g ws)
  | [], k, g, _ => by simp [brkG, grp, linesOf]
  | w :: r, k, g, hg => by
    unfold brkG grp
    have e : (zeros k ++ ic g).length = k + (ic g).length := by simp
    rw [e]
    split
    · have := brk_grp W i1 r i1 [w] (by simp)
      simp only [ic] at this
      rw [this]
      simp only [linesOf]
      congr 1
      generalize grp W i1 (i1 + w.length) [w] r = x
      cases x <;> simp [linesOf]
    · have := brk_grp W i1 r k (g ++ [w]) (by simp)
      rw [ic_snoc w hg] at this
      have e2 : zeros k ++ ic g ++ 0 :: w = zeros k ++ (ic g ++ 0 :: w) := by simp
      rw [e2, this]
      congr 2
      simp; omega
theorem grp_flat (W i1 : Nat) : ∀ (ws : List Word) (n : Nat) (g : List Word), (grp W i1 n g ws).flatten = g ++ ws
  | [], n, g => by simp [grp]
  | w :: r, n, g => by
    unfold grp; split
    · simp [grp_flat W i1 r]
    · rw [grp_flat W i1 r]; simp
theorem grp_ne (W i1 : Nat) : ∀ (ws : List Word) (n : Nat) (g : List Word), g ≠ [] → ∀ x ∈ grp W i1 n g ws, x ≠ []
  | [], n, g, hg, x, hx => by simp [grp] at hx; subst hx; exact hg
  | w :: r, n, g, hg, x, hx => by
    unfold grp at hx; split at hx
    · rcases List.mem_cons.1 hx with rfl | hx
      · exact hg
      · exact grp_ne W i1 r _ [w] (by simp) x hx
    · exact grp_ne W i1 r _ _ (by simp) x hx
theorem grp_nil (W i1 : Nat) : ∀ (ws : List Word) (n : Nat) (g : List Word), grp W i1 n g ws ≠ []
  | [], n, g => by simp [grp]
  | w :: r, n, g => by
    unfold grp; split
    · simp
    · exact grp_nil W i1 r _ _
end Go.Proofs.Ytfpkcjjgooigbaa.L
