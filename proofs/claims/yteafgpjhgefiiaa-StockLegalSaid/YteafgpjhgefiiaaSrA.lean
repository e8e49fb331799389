/-
  Chapter 30: results that may be nil, as arrays.
-/
import Derived.Test.YteafgpjhgefiiaaSuA
import Derived.Test.YteafgpjhgefiiaaAmZn
namespace Go.Proofs.Yteafgpjhgefiiaa.S
set_option linter.unusedSimpArgs false
set_option linter.unusedVariables false
set_option linter.unusedSectionVars false
open Go.Proofs.Yteafgpjhgefiiaa.Am
theorem TakeU_fn (s : List Nat) (u : List Int) (m : Int) (hs : Pl s) (hu : u.length ≤ maxLen) (hb : ∀ i ∈ u, -9223372036854775808 ≤ i ∧ i < 9223372036854775808) : Am.Fn Try.prog 16 [4] [PL s, MT u m] (UL (take s u)) := by
  have h := Take_fn s u m hs hu hb
  by_cases q : take s u = []
  · rw [q] at h ⊢
    exact Fn_nil (by decide) h
  · unfold NL at h; rw [if_neg q] at h; exact h
theorem RMatchU_fn (s w : List Nat) (hs : Pl s) (hw : Pl w) : Am.Fn Try.prog 13 [1, 0] [PL s, PL w] (.agg [.uslc ((froms s w).map I), I (miss (froms s w))]) := by
  have h := RMatch_fn s w hs hw
  by_cases q : froms s w = []
  · rw [q] at h ⊢
    exact Fn_nil2 (by decide) h
  · unfold NI at h; rw [if_neg q] at h; exact h
abbrev I8 (n : Int) : PV := .int .i8 n
def fl (l : List Int) : PV := if l = [] then .nils else .own 20 1 l.length 1 0 l.length
theorem fl_cases (o : List Int) : (o = [] ∧ fl o = .nils ∧ ilR o = (0, .dead)) ∨ (o ≠ [] ∧ fl o = .own 20 1 o.length 1 0 o.length ∧ ilR o = (1, .arr 1 0 false (o.map I))) := by
  by_cases h : o = []
  · exact .inl ⟨h, by simp [fl, h], by simp [ilR, h]⟩
  · exact .inr ⟨h, by simp [fl, h], by simp [ilR, h]⟩
end Go.Proofs.Yteafgpjhgefiiaa.S
