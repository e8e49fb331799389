/-
  Chapter 26: strikes performed by the reference; apply.
-/
import Derived.Test.YtgdcogoacnghkaaQNkA
namespace Go.Proofs.Ytgdcogoacnghkaa.N
set_option linter.unusedSimpArgs false
set_option linter.unusedVariables false
set_option linter.unusedSectionVars false
open Go.Proofs.Ytgdcogoacnghkaa.Am
set_option maxHeartbeats 4000000

end Go.Proofs.Ytgdcogoacnghkaa.N
