/-
  Chapter 30: dots that are plotted, by running.
-/
import Derived.Test.YteafgpjhgefiiaaSdA
namespace Go.Proofs.Yteafgpjhgefiiaa.S
set_option linter.unusedSimpArgs false
set_option linter.unusedVariables false
set_option linter.unusedSectionVars false
open Go.Proofs.Yteafgpjhgefiiaa.Am
theorem plot_run1 : (arunF Try.prog 700 60 12).fn 32 [0, 0, 1] [gridC [], pts [(0, 0), (1, 1)]] = some (gridU [(0, 0), (1, 1)]) := by kernel_rfl
theorem plot_run2 : (arunF Try.prog 700 60 12).fn 32 [0, 0, 1] [gridC [], pts [(0, 0), (2, 1)]] = some (gridU [(0, 0), (2, 1)]) := by kernel_rfl
end Go.Proofs.Yteafgpjhgefiiaa.S
