/-
  Chapter 20, plain: rows in columns, as stairs, as a list.
-/
import Derived.Test.YtfpkcjjgooigbaaQLbP
namespace Go.Proofs.Ytfpkcjjgooigbaa.C
set_option linter.unusedSimpArgs false
set_option linter.unusedVariables false
set_option linter.unusedSectionVars false
open Go.Proofs.Ytfpkcjjgooigbaa.L
abbrev Row := List Word
/-- the number of columns -/
def nc (rows : List Row) : Nat := (rows.getD 0 []).length
def evenB (rows : List Row) : Bool := decide (rows ≠ []) && decide (1 ≤ nc rows) && decide (nc rows ≤ 4) && rows.all fun r => decide (r.length = nc rows)
def cl (x : Word) : Bool := (clean x).2
def clB (rows : List Row) : Bool := rows.all fun r => r.all cl
/-- a column's width -/
def colW (rows : List Row) (k : Nat) : Nat := rows.foldl (fun m r => max m (r.getD k []).length) 0
def sumW (rows : List Row) : Nat → Nat
  | 0 => 0
  | k + 1 => sumW rows k + colW rows k
def widthN (rows : List Row) : Nat := 2 * (nc rows - 1) + sumW rows (nc rows)
/-- a line in columns, as far as the k-th entry -/
def colPre (rows : List Row) (r : Row) : Nat → Word
  | 0 => []
  | k + 1 => colPre rows r k ++ r.getD k [] ++ (if k + 1 < nc rows then zeros (colW rows k + 2 - (r.getD k []).length) else [])
def colsL (rows : List Row) : List Word := rows.map fun r => colPre rows r (nc rows)
def stairPre (r : Row) : Nat → List Word
  | 0 => []
  | k + 1 => stairPre r k ++ [zeros (2 * k) ++ r.getD k []]
def stairsL (rows : List Row) : List Word := (rows.map fun r => stairPre r r.length).flatten
def fitB (w k : Nat) (x : Word) : Bool := decide (longG ((w : Int) - max ((4 * k : Nat) : Int) ((4 * k + 2 : Nat) : Int)) 0 (words x) < 0)
def listPre (w : Nat) (r : Row) : Nat → List Word
  | 0 => []
  | k + 1 => listPre w r k ++ brk w (4 * k) (4 * k + 2) (words (r.getD k []))
def listL (w : Nat) (rows : List Row) : List Word := (rows.map fun r => listPre w r r.length).flatten
def fitR (w : Nat) (r : Row) : Bool := (List.range r.length).all fun k => fitB w k (r.getD k [])
def longest (l : List Word) : Nat := l.foldl (fun m x => max m x.length) 0
structure Res where
  L : List Word
  form : Int
  e : Int
def layR (rows : List Row) (w : Int) : Res :=
  if w < 24 ∨ 60 < w then ⟨[], 0, 1⟩ else if evenB rows = false then ⟨[], 0, 200⟩ else if clB rows = false then ⟨[], 0, 180⟩
  else if (widthN rows : Int) ≤ w then ⟨colsL rows, 1, 0⟩ else if (longest (stairsL rows) : Int) ≤ w then ⟨stairsL rows, 2, 0⟩
  else if (rows.all (fitR w.toNat)) = true then ⟨listL w.toNat rows, 3, 0⟩ else ⟨[], 0, 181⟩
/-- clean, as the reference says it -/
theorem cleanG_iff : ∀ (l : Word) (i : Nat) (pb : Bool), (cleanG i pb l).2 = true ↔ ((i = 0 → l ≠ []) ∧ (∀ c ∈ l, c ≤ 63) ∧ (pb = true → l.head? ≠ some 0 ∧ (l = [] → i = 0)) ∧ (∀ (k : Nat), l[k]? = some 0 → l[k + 1]? ≠ some 0) ∧ l.getLast? ≠ some 0)
  | [], i, pb => by
    unfold cleanG
    by_cases h0 : i = 0
    · simp [h0]
    · cases pb <;> simp [h0]
  | c :: r, i, pb => by
    unfold cleanG
    by_cases h63 : 63 < c
    · rw [if_pos (.inl h63)]
      simp only [Bool.false_eq_true, false_iff]
      rintro ⟨_, h, _⟩
      have := h c (List.mem_cons_self ..)
      omega
    · by_cases hz : c = 0 ∧ pb = true
      · rw [if_pos (.inr hz)]
        simp only [Bool.false_eq_true, false_iff]
        rintro ⟨_, _, h, _⟩
        exact (h hz.2).1 (by simp [hz.1])
      · rw [if_neg (by rintro (h | h); exact h63 h; exact hz h), cleanG_iff r (i + 1) (decide (c = 0))]
        constructor
        · rintro ⟨_, h2, h3, h4, h5⟩
          refine ⟨by simp, ?_, ?_, ?_, ?_⟩
          · intro x hx
            rcases List.mem_cons.1 hx with rfl | hx
            · omega
            · exact h2 x hx
          · intro hpb
            exact ⟨by simp; intro hc; exact hz ⟨hc, hpb⟩, by simp⟩
          · intro k hk
            cases k with
            | zero =>
              simp at hk
              have := (h3 (by simpa using hk)).1
              simpa [List.head?_eq_getElem?] using this
            | succ k => simpa using h4 k (by simpa using hk)
          · cases r with
            | nil =>
              simp
              intro hc
              have := (h3 (by simpa using hc)).2 rfl
              omega
            | cons d r => simpa using h5
        · rintro ⟨_, h2, h3, h4, h5⟩
          refine ⟨by simp, fun x hx => h2 x (List.mem_cons_of_mem _ hx), ?_, ?_, ?_⟩
          · intro hc
            have hc' : c = 0 := by simpa using hc
            subst hc'
            refine ⟨?_, ?_⟩
            · have := h4 0 (by simp)
              simpa [List.head?_eq_getElem?] using this
            · rintro rfl
              simp at h5
          · intro k hk
            simpa using h4 (k + 1) (by simpa using hk)
          · cases r with
            | nil => simp
            | cons d r => simpa using h5
theorem cl_iff (l : Word) : cl l = true ↔ (l ≠ [] ∧ (∀ c ∈ l, c ≤ 63) ∧ l.head? ≠ some 0 ∧ (∀ (k : Nat), l[k]? = some 0 → l[k + 1]? ≠ some 0) ∧ l.getLast? ≠ some 0) := by
  unfold cl clean
  rw [cleanG_iff]
  simp
end Go.Proofs.Ytfpkcjjgooigbaa.C
