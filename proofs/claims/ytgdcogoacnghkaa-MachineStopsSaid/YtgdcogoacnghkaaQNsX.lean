/-
  Chapter 27: lists compared by a function, as the machine takes them (printed).
-/
import Derived.Test.YtgdcogoacnghkaaProg
import Derived.KernelRfl
import Derived.Test.YtgdcogoacnghkaaQNbX
namespace Go.Proofs.Ytgdcogoacnghkaa.N
set_option linter.unusedSimpArgs false
set_option linter.unusedVariables false
set_option linter.unusedSectionVars false
open Go.Proofs.Ytgdcogoacnghkaa.Am
def X62 : XFn :=
 ⟨32, [0, 1, 2, 6, 7, 8, 9, 14, 15, 16, 17, 18, 30], 0, [(3, none)],
  .seq (
  .reg [⟨.mv (.c (.bool false)), some 3, none, []⟩]) (
  .seq (
  .seq (
  .reg [⟨.mv (.v 0), none, none, []⟩,
    ⟨.len false (.l 0), none, none, []⟩,
    ⟨.mv (.v 1), none, none, []⟩,
    ⟨.len false (.l 2), none, none, []⟩,
    ⟨.bin .neq false (.l 1) (.l 3), some 7, none, []⟩]) (
  .cond (.v 7) (
   .seq (
   .reg [⟨.mv (.c (.bool false)), some 3, none, []⟩]) (
   .ret)) (
   .skip))) (
  .seq (
  .seq (
  .reg [⟨.mv (.v 0), some 8, none, []⟩,
    ⟨.len false (.l 0), some 9, none, []⟩,
    ⟨.mv (.c (.int .i64 0)), some 10, none, []⟩]) (
  .block 0 (
   .loop (
    .seq (
    .reg [⟨.bin .lss false (.v 10) (.v 9), some 11, none, []⟩]) (
    .seq (
    .cond (.v 11) (
     .skip) (
     .exit 0)) (
    .seq (
    .block 1 (
     .seq (
     .reg [⟨.mv (.v 10), none, none, []⟩,
       ⟨.indexAddr 1 (.v 8) (.v 10), none, none, []⟩,
       ⟨.load false 1 (.l 1), none, none, []⟩,
       ⟨.mv (.l 0), some 4, none, []⟩,
       ⟨.mv (.l 2), some 5, none, []⟩]) (
     .seq (
     .reg [⟨.mv (.v 1), none, none, []⟩,
       ⟨.mv (.v 4), none, none, []⟩,
       ⟨.indexAddr 1 (.l 0) (.l 1), none, none, []⟩,
       ⟨.load false 1 (.l 2), none, none, []⟩,
       ⟨.mv (.l 3), some 6, none, []⟩]) (
     .seq (
     .reg [⟨.mv (.v 2), none, none, []⟩,
       ⟨.mv (.v 5), none, none, []⟩,
       ⟨.mv (.v 6), none, none, []⟩,
       ⟨.cally (.l 0) [(.l 1), (.l 2)], none, none, []⟩,
       ⟨.un .not (.l 3), some 12, none, []⟩]) (
     .cond (.v 12) (
      .seq (
      .reg [⟨.mv (.c (.bool false)), some 3, none, []⟩]) (
      .ret)) (
      .skip)))))) (
    .reg [⟨.bin .add false (.v 10) (.c (.int .i64 1)), none, none, []⟩,
      ⟨.mv (.l 0), some 10, none, []⟩]))))))) (
  .seq (
  .reg [⟨.mv (.c (.bool true)), some 3, none, []⟩]) (
  .ret))))⟩

def X63 : XFn :=
 ⟨8, [0, 1, 4], 0, [(2, none)],
  .seq (
  .reg [⟨.mv (.c (.bool false)), some 2, none, []⟩]) (
  .seq (
  .reg [⟨.mv (.v 0), none, none, []⟩,
    ⟨.mv (.v 1), none, none, []⟩,
    ⟨.call 64 [(.l 0), (.l 1)] [(0, 0)] true, none, none, []⟩,
    ⟨.mv (.l 2), some 2, none, []⟩]) (
  .ret))⟩

def X64 : XFn :=
 ⟨26, [0, 1, 4, 5, 10, 12, 13, 14, 24], 0, [(2, none)],
  .seq (
  .reg [⟨.mv (.c (.bool false)), some 2, none, []⟩]) (
  .seq (
  .seq (
  .reg [⟨.mv (.v 0), none, none, []⟩,
    ⟨.len false (.l 0), none, none, []⟩,
    ⟨.mv (.v 1), none, none, []⟩,
    ⟨.len false (.l 2), none, none, []⟩,
    ⟨.bin .neq false (.l 1) (.l 3), some 4, none, []⟩]) (
  .cond (.v 4) (
   .seq (
   .reg [⟨.mv (.c (.bool false)), some 2, none, []⟩]) (
   .ret)) (
   .skip))) (
  .seq (
  .seq (
  .reg [⟨.mv (.v 0), none, none, []⟩,
    ⟨.len false (.l 0), some 5, none, []⟩,
    ⟨.mv (.c (.int .i64 0)), some 6, none, []⟩]) (
  .block 0 (
   .loopS [0, 1, 5, 6] 0 (
    .seq (
    .reg [⟨.bin .lss false (.v 6) (.v 5), some 7, none, []⟩]) (
    .seq (
    .cond (.v 7) (
     .skip) (
     .exit 0)) (
    .seq (
    .block 1 (
     .seq (
     .reg [⟨.mv (.v 6), none, none, []⟩,
       ⟨.mv (.l 0), some 3, none, []⟩]) (
     .seq (
     .reg [⟨.mv (.v 0), none, none, []⟩,
       ⟨.mv (.v 3), none, none, []⟩,
       ⟨.indexAddr 1 (.l 0) (.l 1), none, none, []⟩,
       ⟨.load false 1 (.l 2), none, none, []⟩,
       ⟨.mv (.v 1), none, none, []⟩,
       ⟨.mv (.v 3), none, none, []⟩,
       ⟨.indexAddr 1 (.l 4) (.l 5), none, none, []⟩,
       ⟨.load false 1 (.l 6), none, none, []⟩,
       ⟨.bin .neq true (.l 3) (.l 7), some 8, none, []⟩]) (
     .cond (.v 8) (
      .seq (
      .reg [⟨.mv (.c (.bool false)), some 2, none, []⟩]) (
      .ret)) (
      .skip))))) (
    .reg [⟨.bin .add false (.v 6) (.c (.int .i64 1)), none, none, []⟩,
      ⟨.mv (.l 0), some 6, none, []⟩]))))))) (
  .seq (
  .reg [⟨.mv (.c (.bool true)), some 2, none, []⟩]) (
  .ret))))⟩

theorem c62 : compFnAt Try.prog 62 0 = some X62 := by kernel_rfl
theorem c63 : compFnAt Try.prog 63 0 = some X63 := by kernel_rfl
theorem c64 : compFn Try.prog 64 = some { X64 with body := strip X64.body } := by kernel_rfl
end Go.Proofs.Ytgdcogoacnghkaa.N
