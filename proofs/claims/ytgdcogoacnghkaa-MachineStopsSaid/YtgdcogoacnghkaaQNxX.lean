/-
  Chapter 27: the embosser's inner functions, as the machine takes them (printed).
-/
import Derived.Test.YtgdcogoacnghkaaProg
import Derived.KernelRfl
import Derived.Test.YtgdcogoacnghkaaQNoX
namespace Go.Proofs.Ytgdcogoacnghkaa.N
set_option linter.unusedSimpArgs false
set_option linter.unusedVariables false
set_option linter.unusedSectionVars false
open Go.Proofs.Ytgdcogoacnghkaa.Am
def X35 : XFn :=
 ⟨32, [0, 1, 5, 6, 7, 8, 9, 10, 11, 21, 30], 25, [],
  .seq (
  .reg [⟨.mv (.v 1), some 5, none, []⟩,
    ⟨.len false (.l 0), some 6, none, []⟩,
    ⟨.mv (.c (.int .i64 0)), some 7, none, []⟩]) (
  .block 0 (
   .loop (
    .seq (
    .reg [⟨.bin .lss false (.v 7) (.v 6), some 8, none, []⟩]) (
    .seq (
    .cond (.v 8) (
     .skip) (
     .exit 0)) (
    .seq (
    .block 1 (
     .seq (
     .reg [⟨.indexAddr 3 (.v 5) (.v 7), none, none, []⟩,
       ⟨.load true 3 (.l 0), none, none, []⟩,
       ⟨.alloc 24 [(.int .i64 0), (.int .i64 0), (.int .i64 0)], some 2, none, []⟩,
       ⟨.store 3 (.l 2) (.l 1), none, none, []⟩]) (
     .seq (
     .seq (
     .reg [⟨.call 53 [] [(0, 0)] false, none, none, []⟩,
       ⟨.fieldAddr 0 (.v 2), none, none, []⟩,
       ⟨.load false 1 (.l 1), none, none, []⟩,
       ⟨.lookup 1 true (.lit .nilFunc) (.l 0) (.l 2), none, none, []⟩,
       ⟨.mv (.l 3), none, none, []⟩,
       ⟨.extract (.l 4) 0, none, none, []⟩,
       ⟨.extract (.l 4) 1, none, none, []⟩,
       ⟨.mv (.l 5), some 3, none, []⟩,
       ⟨.mv (.l 6), some 4, none, []⟩]) (
     .seq (
     .reg [⟨.mv (.v 4), some 9, none, []⟩]) (
     .cond (.v 9) (
      .reg [⟨.mv (.v 3), none, none, []⟩,
        ⟨.mv (.v 0), none, none, []⟩,
        ⟨.fieldAddr 2 (.v 2), none, none, []⟩,
        ⟨.load false 1 (.l 2), none, none, []⟩,
        ⟨.cally (.l 0) [(.l 1), (.l 3)], none, none, []⟩]) (
      .skip)))) (
     .seq (
     .reg [⟨.mv (.v 0), none, none, []⟩,
       ⟨.nilchk (.l 0), none, none, []⟩,
       ⟨.fieldAddr 9 (.l 1), none, none, []⟩,
       ⟨.load false 1 (.l 2), some 10, none, []⟩]) (
     .cond (.v 10) (
      .ret) (
      .skip)))))) (
    .reg [⟨.bin .add false (.v 7) (.c (.int .i64 1)), none, none, []⟩,
      ⟨.mv (.l 0), some 7, none, []⟩]))))))⟩

def X36 : XFn :=
 ⟨94, [0, 1, 3, 4, 6, 8, 32, 34, 35, 36, 37, 47, 61, 62, 63, 64, 81], 25, [],
  .seq (
  .reg [⟨.box 24 (.v 1), some 2, none, []⟩]) (
  .seq (
  .reg [⟨.mv (.v 0), none, none, []⟩,
    ⟨.nilchk (.l 0), none, none, []⟩,
    ⟨.fieldAddr 0 (.l 1), none, none, []⟩,
    ⟨.fieldAddr 4 (.l 2), none, none, []⟩,
    ⟨.load false 1 (.l 3), none, none, []⟩,
    ⟨.bin .add false (.l 4) (.c (.int .i64 1)), none, none, []⟩,
    ⟨.nilchk (.l 0), none, none, []⟩,
    ⟨.fieldAddr 0 (.l 6), none, none, []⟩,
    ⟨.fieldAddr 4 (.l 7), none, none, []⟩,
    ⟨.store 1 (.l 8) (.l 5), none, none, []⟩]) (
  .seq (
  .reg [⟨.fieldAddr 0 (.v 2), none, none, []⟩,
    ⟨.load false 1 (.l 0), none, none, []⟩,
    ⟨.mv (.v 0), none, none, []⟩,
    ⟨.nilchk (.l 2), none, none, []⟩,
    ⟨.fieldAddr 7 (.l 3), none, none, []⟩,
    ⟨.load false 1 (.l 4), none, none, []⟩,
    ⟨.bin .add false (.l 1) (.l 5), none, none, []⟩,
    ⟨.mv (.l 6), some 3, none, []⟩]) (
  .seq (
  .seq (
  .reg [⟨.mv (.v 3), none, none, []⟩,
    ⟨.mv (.v 0), none, none, []⟩,
    ⟨.nilchk (.l 1), none, none, []⟩,
    ⟨.fieldAddr 0 (.l 2), none, none, []⟩,
    ⟨.fieldAddr 0 (.l 3), none, none, []⟩,
    ⟨.fieldAddr 1 (.l 4), none, none, []⟩,
    ⟨.load false 1 (.l 5), none, none, []⟩,
    ⟨.bin .geq false (.l 0) (.l 6), some 6, none, []⟩]) (
  .cond (.v 6) (
   .ret) (
   .skip))) (
  .seq (
  .seq (
  .reg [⟨.fieldAddr 1 (.v 2), none, none, []⟩,
    ⟨.load false 1 (.l 0), some 7, none, []⟩,
    ⟨.len false (.l 1), some 8, none, []⟩,
    ⟨.mv (.c (.int .i64 0)), some 9, none, []⟩]) (
  .block 0 (
   .loop (
    .seq (
    .reg [⟨.bin .lss false (.v 9) (.v 8), some 10, none, []⟩]) (
    .seq (
    .cond (.v 10) (
     .skip) (
     .exit 0)) (
    .seq (
    .block 1 (
     .seq (
     .reg [⟨.indexAddr 1 (.v 7) (.v 9), none, none, []⟩,
       ⟨.load false 1 (.l 0), none, none, []⟩,
       ⟨.mv (.l 1), some 4, none, []⟩]) (
     .seq (
     .reg [⟨.mv (.v 0), none, none, []⟩,
       ⟨.nilchk (.l 0), none, none, []⟩,
       ⟨.fieldAddr 8 (.l 1), none, none, []⟩,
       ⟨.load false 1 (.l 2), none, none, []⟩,
       ⟨.mv (.v 4), none, none, []⟩,
       ⟨.indexAddr 1 (.l 3) (.l 4), none, none, []⟩,
       ⟨.load false 1 (.l 5), none, none, []⟩,
       ⟨.un .not (.l 6), some 11, none, []⟩]) (
     .cond (.v 11) (
      .reg [⟨.mv (.v 0), none, none, []⟩,
        ⟨.nilchk (.l 0), none, none, []⟩,
        ⟨.fieldAddr 0 (.l 1), none, none, []⟩,
        ⟨.fieldAddr 0 (.l 2), none, none, []⟩,
        ⟨.fieldAddr 2 (.l 3), none, none, []⟩,
        ⟨.load false 1 (.l 4), none, none, []⟩,
        ⟨.mv (.v 3), none, none, []⟩,
        ⟨.indexAddr 1 (.l 5) (.l 6), none, none, []⟩,
        ⟨.load false 1 (.l 7), none, none, []⟩,
        ⟨.mv (.v 4), none, none, []⟩,
        ⟨.indexAddr 1 (.l 8) (.l 9), none, none, []⟩,
        ⟨.store 1 (.l 10) (.c (.bool true)), none, none, []⟩]) (
      .skip))))) (
    .reg [⟨.bin .add false (.v 9) (.c (.int .i64 1)), none, none, []⟩,
      ⟨.mv (.l 0), some 9, none, []⟩]))))))) (
  .seq (
  .reg [⟨.fieldAddr 2 (.v 2), none, none, []⟩,
    ⟨.load false 1 (.l 0), some 12, none, []⟩,
    ⟨.len false (.l 1), some 13, none, []⟩,
    ⟨.mv (.c (.int .i64 0)), some 14, none, []⟩]) (
  .block 2 (
   .loop (
    .seq (
    .reg [⟨.bin .lss false (.v 14) (.v 13), some 15, none, []⟩]) (
    .seq (
    .cond (.v 15) (
     .skip) (
     .exit 2)) (
    .seq (
    .block 3 (
     .seq (
     .reg [⟨.indexAddr 1 (.v 12) (.v 14), none, none, []⟩,
       ⟨.load false 1 (.l 0), none, none, []⟩,
       ⟨.mv (.l 1), some 5, none, []⟩]) (
     .seq (
     .reg [⟨.mv (.v 0), none, none, []⟩,
       ⟨.nilchk (.l 0), none, none, []⟩,
       ⟨.fieldAddr 8 (.l 1), none, none, []⟩,
       ⟨.load false 1 (.l 2), none, none, []⟩,
       ⟨.mv (.v 0), none, none, []⟩,
       ⟨.nilchk (.l 4), none, none, []⟩,
       ⟨.fieldAddr 0 (.l 5), none, none, []⟩,
       ⟨.fieldAddr 0 (.l 6), none, none, []⟩,
       ⟨.fieldAddr 0 (.l 7), none, none, []⟩,
       ⟨.load false 1 (.l 8), none, none, []⟩,
       ⟨.mv (.v 5), none, none, []⟩,
       ⟨.bin .add false (.l 9) (.l 10), none, none, []⟩,
       ⟨.indexAddr 1 (.l 3) (.l 11), none, none, []⟩,
       ⟨.load false 1 (.l 12), none, none, []⟩,
       ⟨.un .not (.l 13), some 16, none, []⟩]) (
     .cond (.v 16) (
      .reg [⟨.mv (.v 0), none, none, []⟩,
        ⟨.nilchk (.l 0), none, none, []⟩,
        ⟨.fieldAddr 0 (.l 1), none, none, []⟩,
        ⟨.fieldAddr 0 (.l 2), none, none, []⟩,
        ⟨.fieldAddr 3 (.l 3), none, none, []⟩,
        ⟨.load false 1 (.l 4), none, none, []⟩,
        ⟨.mv (.v 3), none, none, []⟩,
        ⟨.indexAddr 1 (.l 5) (.l 6), none, none, []⟩,
        ⟨.load false 1 (.l 7), none, none, []⟩,
        ⟨.mv (.v 5), none, none, []⟩,
        ⟨.indexAddr 1 (.l 8) (.l 9), none, none, []⟩,
        ⟨.store 1 (.l 10) (.c (.bool true)), none, none, []⟩]) (
      .skip))))) (
    .reg [⟨.bin .add false (.v 14) (.c (.int .i64 1)), none, none, []⟩,
      ⟨.mv (.l 0), some 14, none, []⟩])))))))))))⟩

def X59 : XFn :=
 ⟨7, [0, 1], 26, [],
  .reg [⟨.mv (.v 0), none, none, []⟩,
    ⟨.nilchk (.l 0), none, none, []⟩,
    ⟨.fieldAddr 9 (.l 1), none, none, []⟩,
    ⟨.store 1 (.l 2) (.c (.bool true)), none, none, []⟩]⟩

def X60 : XFn :=
 ⟨11, [0, 1], 26, [],
  .reg [⟨.mv (.v 0), none, none, []⟩,
    ⟨.nilchk (.l 0), none, none, []⟩,
    ⟨.fieldAddr 7 (.l 1), none, none, []⟩,
    ⟨.load false 1 (.l 2), none, none, []⟩,
    ⟨.bin .add false (.l 3) (.c (.int .i64 1)), none, none, []⟩,
    ⟨.nilchk (.l 0), none, none, []⟩,
    ⟨.fieldAddr 7 (.l 5), none, none, []⟩,
    ⟨.store 1 (.l 6) (.l 4), none, none, []⟩]⟩

def X61 : XFn :=
 ⟨42, [0, 1, 23], 28, [],
  .seq (
  .seq (
  .reg [⟨.mv (.v 1), none, none, []⟩,
    ⟨.bin .lss false (.l 0) (.c (.int .i64 0)), none, none, []⟩,
    ⟨.mv (.l 1), none, none, []⟩,
    ⟨.mv (.v 1), none, some ((.l 2), false), []⟩,
    ⟨.mv (.v 0), none, some ((.l 2), false), []⟩,
    ⟨.nilchk (.l 4), none, some ((.l 2), false), []⟩,
    ⟨.fieldAddr 8 (.l 5), none, some ((.l 2), false), []⟩,
    ⟨.load false 1 (.l 6), none, some ((.l 2), false), []⟩,
    ⟨.len false (.l 7), none, some ((.l 2), false), []⟩,
    ⟨.bin .geq false (.l 3) (.l 8), none, some ((.l 2), false), []⟩,
    ⟨.pick (.l 2) (.c (.bool true)) (.l 9), none, none, []⟩,
    ⟨.mv (.l 10), none, none, []⟩,
    ⟨.mv (.v 0), none, some ((.l 11), false), []⟩,
    ⟨.nilchk (.l 12), none, some ((.l 11), false), []⟩,
    ⟨.fieldAddr 8 (.l 13), none, some ((.l 11), false), []⟩,
    ⟨.load false 1 (.l 14), none, some ((.l 11), false), []⟩,
    ⟨.mv (.v 1), none, some ((.l 11), false), []⟩,
    ⟨.indexAddr 1 (.l 15) (.l 16), none, some ((.l 11), false), []⟩,
    ⟨.load false 1 (.l 17), none, some ((.l 11), false), []⟩,
    ⟨.pick (.l 11) (.c (.bool true)) (.l 18), some 2, none, []⟩]) (
  .cond (.v 2) (
   .ret) (
   .skip))) (
  .seq (
  .reg [⟨.mv (.v 0), none, none, []⟩,
    ⟨.nilchk (.l 0), none, none, []⟩,
    ⟨.fieldAddr 8 (.l 1), none, none, []⟩,
    ⟨.load false 1 (.l 2), none, none, []⟩,
    ⟨.mv (.v 1), none, none, []⟩,
    ⟨.indexAddr 1 (.l 3) (.l 4), none, none, []⟩,
    ⟨.store 1 (.l 5) (.c (.bool true)), none, none, []⟩]) (
  .reg [⟨.mv (.v 0), none, none, []⟩,
    ⟨.mv (.v 0), none, none, []⟩,
    ⟨.nilchk (.l 1), none, none, []⟩,
    ⟨.fieldAddr 0 (.l 2), none, none, []⟩,
    ⟨.fieldAddr 6 (.l 3), none, none, []⟩,
    ⟨.load false 1 (.l 4), none, none, []⟩,
    ⟨.mv (.v 1), none, none, []⟩,
    ⟨.mkarr 26 1 [(.int .i64 0)] [(0, (.l 6))], none, none, []⟩,
    ⟨.append 27 1 8 1 (.l 5) (.l 7), none, none, []⟩,
    ⟨.nilchk (.l 0), none, none, []⟩,
    ⟨.fieldAddr 0 (.l 9), none, none, []⟩,
    ⟨.fieldAddr 6 (.l 10), none, none, []⟩,
    ⟨.store 1 (.l 11) (.l 8), none, none, []⟩]))⟩

theorem c35 : compFnAt Try.prog 35 24 = some X35 := by kernel_rfl
theorem c36 : compFnAt Try.prog 36 24 = some X36 := by kernel_rfl
theorem c59 : compFnAt Try.prog 59 26 = some X59 := by kernel_rfl
theorem c60 : compFnAt Try.prog 60 26 = some X60 := by kernel_rfl
theorem c61 : compFnAt Try.prog 61 26 = some X61 := by kernel_rfl
end Go.Proofs.Ytgdcogoacnghkaa.N
