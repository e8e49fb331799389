/-
  Chapter 18, plain: the greedy way has the fewest lines.
-/
import Derived.Test.YtnlapjkfbodbkaaLbP
namespace Go.Proofs.Ytnlapjkfbodbkaa.L
set_option linter.unusedSimpArgs false
set_option linter.unusedVariables false
set_option linter.unusedSectionVars false
/-- the cells of the words from .. to - 1 -/
def slen (ws : List Word) (fr to : Nat) : Nat := (((ws.take to).drop fr).map List.length).sum
theorem slen_succ {ws : List Word} {fr to : Nat} (h1 : fr ≤ to) (h2 : to < ws.length) : slen ws fr (to + 1) = slen ws fr to + ws[to].length := by
  unfold slen
  rw [List.take_succ_eq_append_getElem h2, List.drop_append_of_le_length (by simp; omega)]
  simp
theorem slen_self (ws : List Word) (fr : Nat) : slen ws fr fr = 0 := by
  unfold slen
  rw [List.drop_eq_nil_of_le (by simp; omega)]; rfl
def cost (ws : List Word) (a b fr e : Nat) : Int := (if fr = 0 then (a : Int) + e - 1 else (b : Int) + e - fr - 1) + slen ws fr e
theorem cost_succ {ws : List Word} {a b fr e : Nat} (h1 : fr ≤ e) (h2 : e < ws.length) : cost ws a b fr (e + 1) = cost ws a b fr e + 1 + ws[e].length := by
  unfold cost
  rw [slen_succ h1 h2]
  split <;> omega
/-- one beginning more -/
def stepF (ws : List Word) (W a b : Nat) (best : List Int) (e : Nat) (least : Int) (fr : Nat) : Int :=
  if cost ws a b fr e ≤ W ∧ 0 ≤ best.getD fr 0 ∧ (least < 0 ∨ best.getD fr 0 + 1 < least) then best.getD fr 0 + 1 else least
def leastU (ws : List Word) (W a b : Nat) (best : List Int) (e j : Nat) : Int := (List.range j).foldl (stepF ws W a b best e) (-1)
theorem leastU_succ {ws : List Word} {W a b : Nat} {best : List Int} {e j : Nat} : leastU ws W a b best e (j + 1) = stepF ws W a b best e (leastU ws W a b best e j) j := by
  unfold leastU; rw [List.range_succ, List.foldl_append]; rfl
def bests (ws : List Word) (W a b : Nat) : Nat → List Int
  | 0 => [0]
  | e + 1 => bests ws W a b e ++ [leastU ws W a b (bests ws W a b e) (e + 1) (e + 1)]
theorem bests_len (ws : List Word) (W a b : Nat) : ∀ e, (bests ws W a b e).length = e + 1
  | 0 => rfl
  | e + 1 => by simp [bests, bests_len ws W a b e]
theorem leastU_spec {ws : List Word} {W a b : Nat} {best : List Int} {e : Nat} (hb : ∀ j, 0 ≤ best.getD j 0) : ∀ j, (leastU ws W a b best e j = -1 ∧ ∀ fr, fr < j → ¬ cost ws a b fr e ≤ W) ∨
    ((∃ fr, fr < j ∧ cost ws a b fr e ≤ W ∧ leastU ws W a b best e j = best.getD fr 0 + 1) ∧ ∀ fr, fr < j → cost ws a b fr e ≤ W → leastU ws W a b best e j ≤ best.getD fr 0 + 1)
  | 0 => .inl ⟨rfl, fun fr h => by omega⟩
  | j + 1 => by
    have hj := hb j
    rw [leastU_succ]
    unfold stepF
    rcases leastU_spec (ws := ws) (W := W) (a := a) (b := b) (e := e) hb j with ⟨h1, h2⟩ | ⟨⟨f0, h1, h2, h3⟩, h4⟩
    · by_cases hc : cost ws a b j e ≤ W
      · rw [if_pos ⟨hc, hj, .inl (by omega)⟩]
        refine .inr ⟨⟨j, by omega, hc, rfl⟩, fun fr hf hcf => ?_⟩
        by_cases hfj : fr = j
        · subst hfj; exact Int.le_refl _
        · exact absurd hcf (h2 fr (by omega))
      · rw [if_neg (fun h => hc h.1)]
        refine .inl ⟨h1, fun fr hf => ?_⟩
        by_cases hfj : fr = j
        · subst hfj; exact hc
        · exact h2 fr (by omega)
    · have h0 := hb f0
      by_cases hc : cost ws a b j e ≤ W ∧ 0 ≤ best.getD j 0 ∧ (leastU ws W a b best e j < 0 ∨ best.getD j 0 + 1 < leastU ws W a b best e j)
      · rw [if_pos hc]
        refine .inr ⟨⟨j, by omega, hc.1, rfl⟩, fun fr hf hcf => ?_⟩
        by_cases hfj : fr = j
        · subst hfj; exact Int.le_refl _
        · have := h4 fr (by omega) hcf
          have := hc.2.2
          omega
      · rw [if_neg hc]
        refine .inr ⟨⟨f0, by omega, h2, h3⟩, fun fr hf hcf => ?_⟩
        by_cases hfj : fr = j
        · subst hfj
          apply Classical.byContradiction
          intro hn
          exact hc ⟨hcf, hj, .inr (by omega)⟩
        · exact h4 fr (by omega) hcf
/-- greedy: how many lines, how long the last one is -/
def glF (W b : Nat) (s : Nat × Nat) (w : Word) : Nat × Nat := if W < s.2 + 1 + w.length then (s.1 + 1, b + w.length) else (s.1, s.2 + 1 + w.length)
theorem brkG_gl (W b : Nat) : ∀ (ws : List Word) (cur : Word) (k : Nat), (ws.foldl (glF W b) (k + 1, cur.length)).1 = k + (brkG W b cur ws).length
  | [], cur, k => rfl
  | w :: r, cur, k => by
    simp only [List.foldl_cons, glF, brkG]
    split
    · have := brkG_gl W b r (zeros b ++ w) (k + 1)
      simp only [List.length_append, List.length_replicate] at this
      rw [this]; simp; omega
    · have := brkG_gl W b r (cur ++ 0 :: w) k
      rw [show (cur ++ 0 :: w).length = cur.length + 1 + w.length by simp; omega] at this
      rw [this]
def gs (ws : List Word) (W a b : Nat) : Nat → Nat × Nat
  | 0 => (0, 0)
  | e + 1 => if e = 0 then (1, a + (ws.getD 0 []).length) else glF W b (gs ws W a b e) (ws.getD e [])
theorem gs_fold {w : Word} {r : List Word} {W a b : Nat} : ∀ e, e ≤ r.length → gs (w :: r) W a b (e + 1) = (r.take e).foldl (glF W b) (1, a + w.length)
  | 0, _ => rfl
  | e + 1, h => by
    rw [gs, if_neg (by omega), gs_fold e (by omega), List.take_succ_eq_append_getElem (by omega), List.foldl_append]
    simp [show e < r.length by omega]
theorem gs_brk {ws : List Word} {W a b : Nat} (h0 : ws ≠ []) : (gs ws W a b ws.length).1 = (brk W a b ws).length := by
  match ws, h0 with
  | w :: r, _ =>
    have h1 := gs_fold (w := w) (r := r) (W := W) (a := a) (b := b) r.length (Nat.le_refl _)
    have h2 := brkG_gl W b r (zeros a ++ w) 0
    simp only [List.length_append, List.length_replicate] at h2
    rw [List.take_length] at h1
    rw [List.length_cons, h1, h2, brk]; omega
section
variable {ws : List Word} {W a b : Nat} (hfit : ∀ w ∈ ws, max a b + w.length ≤ W)
include hfit
/-- the last line's beginning -/
theorem gs_start : ∀ e, e < ws.length → ∃ s, s ≤ e ∧ ((gs ws W a b (e + 1)).2 : Int) = cost ws a b s (e + 1) ∧ (gs ws W a b s).1 + 1 = (gs ws W a b (e + 1)).1 ∧ (gs ws W a b (e + 1)).2 ≤ W
  | 0, h => by
    have := hfit _ (List.getElem_mem h)
    refine ⟨0, Nat.le_refl _, ?_, rfl, ?_⟩
    · rw [cost_succ (Nat.le_refl _) h]
      simp [gs, cost, slen_self, h]
    · simp [gs, h]; omega
  | e + 1, h => by
    obtain ⟨s, h1, h2, h3, h4⟩ := gs_start e (by omega)
    have := hfit _ (List.getElem_mem h)
    have hg : ws.getD (e + 1) [] = ws[e + 1] := by simp [h]
    rw [gs, if_neg (by omega), hg]
    unfold glF
    split
    · refine ⟨e + 1, Nat.le_refl _, ?_, rfl, by simp only; omega⟩
      rw [cost_succ (Nat.le_refl _) h]
      simp only [cost, slen_self, if_neg (show ¬ e + 1 = 0 by omega)]
      omega
    · rename_i hc
      refine ⟨s, by omega, ?_, h3, by simp only; omega⟩
      rw [cost_succ (by omega) h]
      simp only
      omega
theorem gs_min : ∀ e, e < ws.length → ∀ fr, fr ≤ e → cost ws a b fr (e + 1) ≤ W → (gs ws W a b (e + 1)).1 ≤ (gs ws W a b fr).1 + 1 ∧ ((gs ws W a b (e + 1)).1 = (gs ws W a b fr).1 + 1 → ((gs ws W a b (e + 1)).2 : Int) ≤ cost ws a b fr (e + 1))
  | 0, h, fr, hf, hc => by
    obtain rfl : fr = 0 := by omega
    refine ⟨Nat.le_refl _, fun _ => ?_⟩
    obtain ⟨s, h1, h2, _, _⟩ := gs_start hfit 0 h
    obtain rfl : s = 0 := by omega
    rw [h2]; exact Int.le_refl _
  | e + 1, h, fr, hf, hc => by
    have hg : ws.getD (e + 1) [] = ws[e + 1] := by simp [h]
    have hstep : gs ws W a b (e + 1 + 1) = glF W b (gs ws W a b (e + 1)) ws[e + 1] := by rw [gs, if_neg (by omega), hg]
    by_cases hfe : fr = e + 1
    · subst hfe
      rw [hstep]
      unfold glF
      split
      · refine ⟨Nat.le_refl _, fun _ => ?_⟩
        rw [cost_succ (Nat.le_refl _) h]
        simp only [cost, slen_self, if_neg (show ¬ e + 1 = 0 by omega)]
        omega
      · exact ⟨by simp only; omega, fun h => by simp only at h; omega⟩
    · have hsu := cost_succ (a := a) (b := b) (show fr ≤ e + 1 by omega) h
      obtain ⟨h1, h2⟩ := gs_min e (by omega) fr (by omega) (by omega)
      have hpos : 1 ≤ (gs ws W a b (e + 1)).1 := by obtain ⟨s, _, _, h3, _⟩ := gs_start hfit e (by omega); omega
      rw [hstep]
      unfold glF
      split
      · rename_i hnew
        have hlt : (gs ws W a b (e + 1)).1 ≤ (gs ws W a b fr).1 := by
          apply Classical.byContradiction
          intro hn
          have := h2 (by omega)
          omega
        refine ⟨by simp only; omega, fun _ => ?_⟩
        have hf0 : fr ≠ 0 := fun e0 => by
          subst e0
          have : (gs ws W a b 0).1 = 0 := rfl
          omega
        rw [hsu]
        simp only [cost, if_neg hf0]
        omega
      · refine ⟨h1, fun he => ?_⟩
        have := h2 he
        simp only
        omega
theorem bests_gs : ∀ e, e ≤ ws.length → ∀ j, j ≤ e → (bests ws W a b e).getD j 0 = ((gs ws W a b j).1 : Int)
  | 0, _, j, hj => by
    obtain rfl : j = 0 := by omega
    rfl
  | e + 1, he, j, hj => by
    have ih := bests_gs e (by omega)
    have hl := bests_len ws W a b e
    rw [bests]
    by_cases hje : j ≤ e
    · rw [List.getD_eq_getElem?_getD, List.getElem?_append_left (by omega), ← List.getD_eq_getElem?_getD, ih j hje]
    · obtain rfl : j = e + 1 := by omega
      rw [List.getD_eq_getElem?_getD, List.getElem?_append_right (by omega), hl]
      simp only [Nat.sub_self, List.getElem?_cons_zero, Option.getD_some]
      have hb : ∀ j, 0 ≤ (bests ws W a b e).getD j 0 := fun j => by
        by_cases hj : j ≤ e
        · rw [ih j hj]; omega
        · rw [List.getD_eq_getElem?_getD, List.getElem?_eq_none (by omega)]; exact Int.le_refl _
      obtain ⟨s, h1, h2, h3, h4⟩ := gs_start hfit e (by omega)
      have hcs : cost ws a b s (e + 1) ≤ W := by omega
      rcases leastU_spec (ws := ws) (W := W) (a := a) (b := b) (e := e + 1) hb (e + 1) with ⟨_, q⟩ | ⟨⟨f0, q1, q2, q3⟩, q4⟩
      · exact absurd hcs (q s (by omega))
      · have r1 := q4 s (by omega) hcs
        rw [ih s h1] at r1
        rw [q3, ih f0 (by omega)] at r1 ⊢
        have r2 := (gs_min hfit e (by omega) f0 (by omega) q2).1
        omega
theorem fewest_brk (h0 : ws ≠ []) : (bests ws W a b ws.length).getD ws.length 0 = ((brk W a b ws).length : Int) := by
  rw [bests_gs hfit _ (Nat.le_refl _) _ (Nat.le_refl _), gs_brk h0]
end
end Go.Proofs.Ytnlapjkfbodbkaa.L
