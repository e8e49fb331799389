/-
  Chapter 18, plain: indents, joining, what is known of broken lines.
-/
import Derived.Test.YtfpkcjjgooigbaaQLaP
namespace Go.Proofs.Ytfpkcjjgooigbaa.L
set_option linter.unusedSimpArgs false
set_option linter.unusedVariables false
set_option linter.unusedSectionVars false
def indent : Word → Nat
  | [] => 0
  | c :: r => if c = 0 then indent r + 1 else 0
def trimN (l : Word) : Nat → Nat
  | 0 => 0
  | n + 1 => if l.getD n 0 = 0 then trimN l n else n + 1
def trim (l : Word) : Word := l.take (trimN l l.length)
def joinG (i0 i1 : Nat) : Nat → Word → List Word → Option Word × Int
  | _, out, [] => (some out, 0)
  | k, out, l :: r =>
    if indent l ≠ (if k = 0 then i0 else i1) then (none, (k : Int)) else if (clean (l.drop (if k = 0 then i0 else i1))).2 = false then (none, (k : Int)) else
      joinG i0 i1 (k + 1) (if k = 0 then out ++ l.drop i0 else out ++ 0 :: l.drop i1) r
/-- the first cell of the first word that is too long; -1: none is -/
def longG (most : Int) : Int → List Word → Int
  | _, [] => -1
  | at_, w :: r => if most < w.length then at_ else longG most (at_ + w.length + 1) r
theorem longG_neg {most : Int} : ∀ {ws : List Word} {a : Int}, 0 ≤ a → longG most a ws < 0 → ∀ w ∈ ws, (w.length : Int) ≤ most
  | [], _, _, _, w, hw => by simp at hw
  | v :: r, a, ha, h, w, hw => by
    unfold longG at h
    split at h
    · omega
    · rcases List.mem_cons.1 hw with rfl | hw
      · omega
      · exact longG_neg (a := a + v.length + 1) (by omega) h w hw
theorem longG_of {most : Int} : ∀ {ws : List Word} {a : Int}, (∀ w ∈ ws, (w.length : Int) ≤ most) → longG most a ws = -1
  | [], _, _ => rfl
  | v :: r, a, h => by
    unfold longG
    rw [if_neg (by have := h v (by simp); omega)]
    exact longG_of fun w hw => h w (by simp [hw])
theorem longG_range {most : Int} : ∀ {ws : List Word} {a : Int}, 0 ≤ a → longG most a ws = -1 ∨ a ≤ longG most a ws
  | [], _, _ => .inl rfl
  | v :: r, a, h => by
    unfold longG
    split
    · exact .inr (Int.le_refl _)
    · rcases longG_range (most := most) (ws := r) (a := a + v.length + 1) (by omega) with h1 | h1
      · exact .inl h1
      · exact .inr (by omega)
theorem indent_zeros : ∀ (n : Nat) (l : Word), indent (zeros n ++ l) = n + indent l
  | 0, l => by simp
  | n + 1, l => by
    rw [show zeros (n + 1) ++ l = 0 :: (zeros n ++ l) by simp [zeros, List.replicate_succ], indent, if_pos rfl, indent_zeros n l]; omega
theorem ic_head {ws : List Word} (h0 : ws ≠ []) (h : ∀ w ∈ ws, wd w) : ∃ c r, ic ws = c :: r ∧ c ≠ 0 := by
  match ws, h0, h with
  | [w], _, h =>
    obtain ⟨h1, h2⟩ := h w (by simp)
    match w, h1, h2 with
    | c :: r, _, h2 => exact ⟨c, r, rfl, (h2 c (by simp)).1⟩
  | w :: v :: r, _, h =>
    obtain ⟨h1, h2⟩ := h w (by simp)
    match w, h1, h2 with
    | c :: q, _, h2 => exact ⟨c, _, rfl, (h2 c (by simp)).1⟩
theorem indent_line {n : Nat} {ws : List Word} (h0 : ws ≠ []) (h : ∀ w ∈ ws, wd w) : indent (zeros n ++ ic ws) = n := by
  obtain ⟨c, r, h1, h2⟩ := ic_head h0 h
  rw [indent_zeros, h1, indent, if_neg h2]; rfl
theorem drop_line (n : Nat) (l : Word) : (zeros n ++ l).drop n = l := by
  rw [List.drop_append_of_le_length (by simp)]; simp
theorem join_more (i0 i1 : Nat) : ∀ (G : List (List Word)) (k : Nat) (ws : List Word), k ≠ 0 → ws ≠ [] → (∀ g ∈ G, g ≠ [] ∧ ∀ w ∈ g, wd w) → joinG i0 i1 k (ic ws) (G.map fun g => zeros i1 ++ ic g) = (some (ic (ws ++ G.flatten)), 0)
  | [], k, ws, _, _, _ => by simp [joinG]
  | g :: G, k, ws, hk, hw, h => by
    obtain ⟨h1, h2⟩ := h g (by simp)
    rw [List.map_cons, joinG, if_neg hk, indent_line h1 h2, if_neg (by simp), drop_line, clean_ic h1 h2, if_neg (by simp), if_neg hk, ← ic_append hw h1,
      join_more i0 i1 G (k + 1) (ws ++ g) (by omega) (by simp [hw]) (fun x hx => h x (by simp [hx]))]
    simp
theorem join_lines (i0 i1 : Nat) {G : List (List Word)} (h0 : G ≠ []) (h : ∀ g ∈ G, g ≠ [] ∧ ∀ w ∈ g, wd w) : joinG i0 i1 0 [] (linesOf i0 i1 G) = (some (ic G.flatten), 0) := by
  match G, h0, h with
  | g :: G, _, h =>
    obtain ⟨h1, h2⟩ := h g (by simp)
    rw [linesOf, joinG, if_pos rfl, indent_line h1 h2, if_neg (by simp), drop_line, clean_ic h1 h2, if_neg (by simp), if_pos rfl, List.nil_append,
      join_more i0 i1 G 1 g (by omega) h1 (fun x hx => h x (by simp [hx]))]
    simp
/-- groups that fit, and of which none could take one more word -/
def okG (W i1 : Nat) : Nat → List (List Word) → Prop
  | _, [] => True
  | k, g :: r => k + (ic g).length ≤ W ∧ (∀ h, r.head? = some h → W < k + (ic g).length + 1 + (h.headD []).length) ∧ okG W i1 i1 r
theorem grp_head (W i1 : Nat) : ∀ (ws : List Word) (n : Nat) (g : List Word), g ≠ [] → ∃ t r, grp W i1 n g ws = (g ++ t) :: r
  | [], n, g, _ => ⟨[], [], by simp [grp]⟩
  | w :: r, n, g, hg => by
    unfold grp; split
    · exact ⟨[], _, by simp; rfl⟩
    · obtain ⟨t, q, h⟩ := grp_head W i1 r (n + 1 + w.length) (g ++ [w]) (by simp)
      exact ⟨w :: t, q, by rw [h]; simp⟩
theorem grp_ok (W i1 : Nat) : ∀ (ws : List Word) (k : Nat) (g : List Word), g ≠ [] → k + (ic g).length ≤ W → (∀ w ∈ ws, i1 + w.length ≤ W) → okG W i1 k (grp W i1 (k + (ic g).length) g ws)
  | [], k, g, _, h, _ => by simp [grp, okG]; exact h
  | w :: r, k, g, hg, h, hw => by
    unfold grp
    split
    · rename_i hc
      have h1 := hw w (by simp)
      have h2 := grp_ok W i1 r i1 [w] (by simp) (by simpa [ic] using h1) (fun x hx => hw x (by simp [hx]))
      refine ⟨h, fun x hx => ?_, by simpa [ic] using h2⟩
      obtain ⟨t, q, e⟩ := grp_head W i1 r (i1 + w.length) [w] (by simp)
      rw [e] at hx
      simp at hx; subst hx
      simpa using hc
    · rename_i hc
      have e : k + (ic (g ++ [w])).length = k + (ic g).length + 1 + w.length := by rw [ic_snoc w hg]; simp; omega
      have h2 := grp_ok W i1 r k (g ++ [w]) (by simp) (by omega) (fun x hx => hw x (by simp [hx]))
      rw [e] at h2; exact h2
/-- one word more -/
theorem brkG_snoc (W i1 : Nat) (w : Word) : ∀ (ws : List Word) (cur : Word), ∃ (p : List Word) (last : Word), brkG W i1 cur ws = p ++ [last] ∧
    brkG W i1 cur (ws ++ [w]) = if W < last.length + 1 + w.length then p ++ [last] ++ [zeros i1 ++ w] else p ++ [last ++ 0 :: w]
  | [], cur => ⟨[], cur, rfl, by simp only [List.nil_append, brkG]; split <;> simp⟩
  | v :: r, cur => by
    by_cases hc : W < cur.length + 1 + v.length
    · obtain ⟨p, last, h1, h2⟩ := brkG_snoc W i1 w r (zeros i1 ++ v)
      refine ⟨cur :: p, last, ?_, ?_⟩
      · rw [brkG, if_pos hc, h1]; rfl
      · rw [List.cons_append, brkG, if_pos hc, h2]; split <;> simp
    · obtain ⟨p, last, h1, h2⟩ := brkG_snoc W i1 w r (cur ++ 0 :: v)
      refine ⟨p, last, ?_, ?_⟩
      · rw [brkG, if_neg hc, h1]
      · rw [List.cons_append, brkG, if_neg hc, h2]
theorem wordsG_snoc (w : Word) (hw : ∀ c ∈ w, c ≠ 0) : ∀ (l v : Word), wordsG v (l ++ 0 :: w) = wordsG v l ++ [w]
  | [], v => by
    rw [show wordsG v ([] ++ 0 :: w) = v :: wordsG [] w by simp [wordsG]]
    have := wordsG_word w [] [] hw
    rw [List.append_nil] at this
    rw [this]; simp [wordsG]
  | c :: r, v => by
    show wordsG v (c :: (r ++ 0 :: w)) = _
    unfold wordsG
    split
    · rw [wordsG_snoc w hw r []]; rfl
    · rw [wordsG_snoc w hw r (v ++ [c])]
theorem clean_snoc {l w : Word} (hl : (clean l).2 = true) (hw : wd w) : clean (l ++ 0 :: w) = (((l ++ 0 :: w).length : Int), true) := by
  have h1 : words (l ++ 0 :: w) = words l ++ [w] := wordsG_snoc w (fun c hc => (hw.2 c hc).1) l []
  have h2 : ∀ v ∈ words (l ++ 0 :: w), wd v := fun v hv => by
    rw [h1] at hv
    rcases List.mem_append.1 hv with hv | hv
    · exact clean_words hl v hv
    · simp at hv; subst hv; exact hw
  have := clean_ic (by rw [h1]; simp) h2
  rwa [ic_words] at this
end Go.Proofs.Ytfpkcjjgooigbaa.L
