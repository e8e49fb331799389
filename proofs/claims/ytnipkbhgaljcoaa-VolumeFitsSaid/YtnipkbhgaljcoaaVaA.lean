/-
  Chapter 23: the fixed examples.
-/
import Derived.Test.YtnipkbhgaljcoaaProg
import Derived.Test.YtnipkbhgaljcoaaVaX
import Derived.KernelRfl
namespace Go.Proofs.Ytnipkbhgaljcoaa.V
set_option linter.unusedSimpArgs false
set_option linter.unusedVariables false
set_option linter.unusedSectionVars false
open Go.Proofs.Ytnipkbhgaljcoaa.Am
theorem sanity_run : arunF Try.prog 12 8 7 [0] [] = some (.bool true) := by kernel_rfl
theorem sanity_fn : Am.Fn Try.prog 7 [0] [] (.bool true) := arunF_sound mixed sanity_run
end Go.Proofs.Ytnipkbhgaljcoaa.V
