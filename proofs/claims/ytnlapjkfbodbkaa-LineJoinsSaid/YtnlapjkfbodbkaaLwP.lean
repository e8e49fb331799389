/-
  Chapter 18: the single lines.
-/
import Derived.Test.YtnlapjkfbodbkaaLtP
namespace Go.Proofs.Ytnlapjkfbodbkaa.L
set_option linter.unusedSimpArgs false
set_option linter.unusedVariables false
set_option linter.unusedSectionVars false
open Go.Proofs.Ytnlapjkfbodbkaa.Am
theorem linesOf_tail (k b : Nat) (g : List Word) (r : List (List Word)) : linesOf k b (g :: r) = (zeros k ++ ic g) :: linesOf b b r := by
  cases r <;> rfl
theorem linesOf_len (k b : Nat) (G : List (List Word)) : (linesOf k b G).length = G.length := by
  cases G <;> simp [linesOf]
theorem linesOf_get (b : Nat) : ∀ (G : List (List Word)) (k i : Nat) (h : i < G.length), (linesOf k b G)[i]'(by rw [linesOf_len]; exact h) = zeros (if i = 0 then k else b) ++ ic G[i]
  | [], k, i, h => by simp at h
  | g :: r, k, 0, h => by simp [linesOf_tail]
  | g :: r, k, i + 1, h => by
    have := linesOf_get b r b i (by simpa using h)
    simp only [linesOf_tail, List.getElem_cons_succ]
    rw [this]
    congr 2
    split <;> rfl
theorem line_fits {W b : Nat} : ∀ (G : List (List Word)) (k : Nat), okG W b k G → ∀ i (h : i < G.length), (if i = 0 then k else b) + (ic G[i]).length ≤ W ∧
    ∀ j (hj : j < G.length), j + 1 = i → W < (if j = 0 then k else b) + (ic G[j]).length + 1 + (G[i].headD []).length
  | [], k, _, i, h => by simp at h
  | g :: r, k, ho, i, h => by
    obtain ⟨o1, o2, o3⟩ := ho
    match i, h with
    | 0, h => exact ⟨by simpa using o1, fun j hj e => by omega⟩
    | i + 1, h =>
      obtain ⟨h1, h2⟩ := line_fits r b o3 i (by simpa using h)
      refine ⟨?_, fun j hj e => ?_⟩
      · simp only [List.getElem_cons_succ, if_neg (show ¬ i + 1 = 0 by omega)]
        split at h1 <;> exact h1
      · obtain rfl : j = i := by omega
        match j, hj, h with
        | 0, hj, h =>
          cases r with
          | nil => simp at h
          | cons g2 r2 => simpa using o2 g2 rfl
        | j + 1, hj, h =>
          simp only [List.getElem_cons_succ, if_neg (show ¬ j + 1 = 0 by omega)]
          have := h2 j (by simp at hj; omega) rfl
          split at this <;> exact this
end Go.Proofs.Ytnlapjkfbodbkaa.L
