/-
  Chapter 30: the six plates.
-/
import Derived.Test.YteafgpjhgefiiaaScA
namespace Go.Proofs.Yteafgpjhgefiiaa.S
set_option linter.unusedSimpArgs false
set_option linter.unusedVariables false
set_option linter.unusedSectionVars false
open Go.Proofs.Yteafgpjhgefiiaa.Am
abbrev UR (d : List (List Bool)) : PV := .uslc (d.map fun r => .uslc (r.map .bool))
/-- a grid of 48 columns, 12 rows with these points -/
def dots (l : List (Nat × Nat)) : List (List Bool) := (List.range 12).map fun y => (List.range 48).map fun x => l.contains (x, y)
def gridU (l : List (Nat × Nat)) : PV := .agg [I 48, I 12, UR (dots l)]
def gridC (l : List (Nat × Nat)) : PV := .agg [I 48, I 12, DT (dots l)]
def pts (l : List (Nat × Nat)) : PV := .slc (l.map fun p => .agg [I p.1, I p.2])
theorem new_run : (arunF Try.prog 200 60 12).fn 31 [0, 0, 1] [I 48, I 12] = some (gridU []) := by kernel_rfl
theorem plot_run0 : (arunF Try.prog 700 60 12).fn 32 [0, 0, 1] [gridC [], pts [(0, 0), (0, 1)]] = some (gridU [(0, 0), (0, 1)]) := by kernel_rfl
end Go.Proofs.Yteafgpjhgefiiaa.S
