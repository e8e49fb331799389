/-
  Chapter 26: lists, plates, results compared.
-/
import Derived.Test.YtgdcogoacnghkaaQNeA
namespace Go.Proofs.Ytgdcogoacnghkaa.N
set_option linter.unusedSimpArgs false
set_option linter.unusedVariables false
set_option linter.unusedSectionVars false
open Go.Proofs.Ytgdcogoacnghkaa.Am
set_option maxHeartbeats 2000000
theorem take_eq {α : Type} {a b : List α} {k : Nat} (h : a.take k = b.take k) (h1 : k < a.length) (h2 : k < b.length) (e : a[k] = b[k]) : a.take (k + 1) = b.take (k + 1) := by
  rw [take_snoc h1, take_snoc h2, h, e]
theorem all_eq {α : Type} {a b : List α} {k : Nat} (h : a.take k = b.take k) (h1 : a.length ≤ k) (h2 : a.length = b.length) : a = b := by
  rwa [List.take_of_length_le h1, List.take_of_length_le (by omega)] at h
/-- lists of strikes that are short -/
def Sks (l : List Stk) : Prop := l.length ≤ 100000 ∧ ∀ s ∈ l, s.up.length ≤ 100000 ∧ s.down.length ≤ 100000
theorem stk_ext {s t : Stk} (h1 : s.row = t.row) (h2 : s.up = t.up) (h3 : s.down = t.down) : s = t := by cases s; cases t; simp_all
/-- rows that are short -/
def Rws (d : List (List Bool)) : Prop := d.length ≤ 100000 ∧ ∀ r ∈ d, r.length ≤ 100000
/-- results -/
abbrev RC (w h : Int) (u d : List (List Bool)) (n e : Int) : PV := .agg [I w, I h, DT u, DT d, I n, I e]

end Go.Proofs.Ytgdcogoacnghkaa.N
