/-
  Chapter 18: the fixed examples.
-/
import Derived.Test.YtnlapjkfbodbkaaLaX
namespace Go.Proofs.Ytnlapjkfbodbkaa.L
set_option linter.unusedSimpArgs false
set_option linter.unusedVariables false
set_option linter.unusedSectionVars false
open Go.Proofs.Ytnlapjkfbodbkaa.Am
theorem sanity_run : arunF Try.prog 60 8 9 [0] [] = some (.bool true) := by kernel_rfl
theorem sanity_fn : Am.Fn Try.prog 9 [0] [] (.bool true) := arunF_sound mixed sanity_run
end Go.Proofs.Ytnlapjkfbodbkaa.L
