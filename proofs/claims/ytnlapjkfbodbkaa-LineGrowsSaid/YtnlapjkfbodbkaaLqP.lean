/-
  Chapter 18: what Break gives, in one form.
-/
import Derived.Test.YtnlapjkfbodbkaaLpA
namespace Go.Proofs.Ytnlapjkfbodbkaa.L
set_option linter.unusedSimpArgs false
set_option linter.unusedVariables false
set_option linter.unusedSectionVars false
open Go.Proofs.Ytnlapjkfbodbkaa.Am
theorem frzUCL : frzE ∘ UCL = CL := rfl
theorem brkG_len (W b : Nat) : ∀ (ws : List Word) (cur : Word), (brkG W b cur ws).length ≤ ws.length + 1
  | [], cur => by simp [brkG]
  | w :: r, cur => by
    unfold brkG; split
    · have := brkG_len W b r (zeros b ++ w); simp; omega
    · have := brkG_len W b r (cur ++ 0 :: w); simp; omega
theorem brkG_rows {W b M : Nat} : ∀ (ws : List Word) (cur : Word), (∀ w ∈ ws, w.length ≤ M) → cur.length ≤ W + b + M → ∀ r ∈ brkG W b cur ws, r.length ≤ W + b + M
  | [], cur, _, hc, r, hr => by simp [brkG] at hr; subst hr; exact hc
  | w :: t, cur, hw, hc, r, hr => by
    have h1 := hw w (by simp)
    unfold brkG at hr; split at hr
    · rcases List.mem_cons.1 hr with rfl | hr
      · exact hc
      · exact brkG_rows t _ (fun x hx => hw x (by simp [hx])) (by simp; omega) r hr
    · exact brkG_rows t _ (fun x hx => hw x (by simp [hx])) (by simp; omega) r hr
theorem brk_bounds {W a b : Nat} {l : Word} (hl : l.length ≤ 1000) (hW : W ≤ 60) (ha : a ≤ 16) (hb : b ≤ 16) : (brk W a b (words l)).length ≤ 1001 ∧ ∀ r ∈ brk W a b (words l), r.length ≤ 2000 := by
  obtain ⟨n1, n2⟩ := wordsG_len l []
  have hM : ∀ w ∈ words l, w.length ≤ 1000 := fun w hw => by have := n2 w hw; simp at this; omega
  have n1' : (words l).length ≤ l.length + 1 := n1
  cases hws : words l with
  | nil => simp [brk]
  | cons w r =>
    rw [hws] at hM n1'
    have := brkG_len W b r (zeros a ++ w)
    have h1 := hM w (by simp)
    refine ⟨by simp only [brk]; simp at n1'; omega, fun q hq => ?_⟩
    have := brkG_rows (W := W) (b := b) (M := 1016) r (zeros a ++ w) (fun x hx => by have := hM x (by simp [hx]); omega) (by simp; omega) q hq
    omega
theorem brk_bounds5 {W a b : Nat} {l : Word} (hl : l.length ≤ 500) (hW : W ≤ 60) (ha : a ≤ 16) (hb : b ≤ 16) : (brk W a b (words l)).length ≤ 501 ∧ ∀ r ∈ brk W a b (words l), r.length ≤ 600 := by
  obtain ⟨n1, n2⟩ := wordsG_len l []
  have hM : ∀ w ∈ words l, w.length ≤ 500 := fun w hw => by have := n2 w hw; simp at this; omega
  have n1' : (words l).length ≤ l.length + 1 := n1
  cases hws : words l with
  | nil => simp [brk]
  | cons w r =>
    rw [hws] at hM n1'
    have := brkG_len W b r (zeros a ++ w)
    have h1 := hM w (by simp)
    refine ⟨by simp only [brk]; simp at n1'; omega, fun q hq => ?_⟩
    have := brkG_rows (W := W) (b := b) (M := 516) r (zeros a ++ w) (fun x hx => by have := hM x (by simp [hx]); omega) (by simp; omega) q hq
    omega
def linesV : Option (List Word) → PV
  | none => .nils
  | some L => .uslc (L.map UCL)
theorem breakR_cases (l : Word) (W a b : Int) (hl : l.length ≤ 1000) : ∃ (at_ e : Int) (L : Option (List Word)), (∀ mk, breakR mk l W a b = mk [linesV L, I at_, I e]) ∧ ∀ L', L = some L' → L'.length ≤ 1001 ∧ ∀ r ∈ L', r.length ≤ 2000 := by
  by_cases h1 : W < 24 ∨ 60 < W ∨ okI a b = false
  · exact ⟨0, 1, none, fun mk => by rw [breakR, if_pos h1]; rfl, fun L' h => by cases h⟩
  by_cases h2 : (clean l).2 = false
  · exact ⟨(clean l).1, 180, none, fun mk => by rw [breakR, if_neg h1, if_pos h2]; rfl, fun L' h => by cases h⟩
  by_cases h3 : 0 ≤ longG (W - max a b) 0 (words l)
  · exact ⟨longG (W - max a b) 0 (words l), 181, none, fun mk => by rw [breakR, if_neg h1, if_neg h2, if_pos h3]; rfl, fun L' h => by cases h⟩
  · refine ⟨0, 0, some (brk W.toNat a.toNat b.toNat (words l)), fun mk => by rw [breakR, if_neg h1, if_neg h2, if_neg h3]; rfl, fun L' h => ?_⟩
    cases h
    simp [okI] at h1
    exact brk_bounds hl (by omega) (by omega) (by omega)
end Go.Proofs.Ytnlapjkfbodbkaa.L
