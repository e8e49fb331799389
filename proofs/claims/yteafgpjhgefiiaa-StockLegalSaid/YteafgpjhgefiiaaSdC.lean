/-
  Chapter 30: dots that are plotted, by running.
-/
import Derived.Test.YteafgpjhgefiiaaSdA
namespace Go.Proofs.Yteafgpjhgefiiaa.S
set_option linter.unusedSimpArgs false
set_option linter.unusedVariables false
set_option linter.unusedSectionVars false
open Go.Proofs.Yteafgpjhgefiiaa.Am
theorem plot_run3 : (arunF Try.prog 700 60 12).fn 32 [0, 0, 1] [gridC [], pts [(47, 0)]] = some (gridU [(47, 0)]) := by kernel_rfl
theorem plot_run4 : (arunF Try.prog 700 60 12).fn 32 [0, 0, 1] [gridC [], pts [(46, 0)]] = some (gridU [(46, 0)]) := by kernel_rfl
end Go.Proofs.Yteafgpjhgefiiaa.S
