/-
  Chapter 27: the fixed examples, as the machine takes them (printed).
-/
import Derived.Test.YtgdcogoacnghkaaProg
import Derived.KernelRfl
import Derived.Test.YtgdcogoacnghkaaQNoX
namespace Go.Proofs.Ytgdcogoacnghkaa.N
set_option linter.unusedSimpArgs false
set_option linter.unusedVariables false
set_option linter.unusedSectionVars false
open Go.Proofs.Ytgdcogoacnghkaa.Am
def X10 : XFn :=
 ⟨124, [0, 1, 2, 3, 4, 6, 8, 10, 12, 13, 58], 31, [(0, none)],
  .seq (
  .reg [⟨.mv (.c (.bool false)), some 0, none, []⟩]) (
  .seq (
  .reg [⟨.lit 1 [(.int .i64 0), (.int .i64 0), (.int .i64 0), (.int .i64 0), (.int .i64 0), (.int .i64 0)] [(0, (.c (.int .i64 0))), (1, (.c (.int .i64 0))), (2, (.c (.int .i64 1))), (3, (.c (.int .i64 0))), (4, (.c (.int .i64 0))), (5, (.c (.int .i64 1)))], none, none, []⟩,
    ⟨.call 29 [(.l 0)] [(0, 0), (0, 0), (0, 1), (1, 1)] true, none, none, []⟩,
    ⟨.alloc 2 [(.int .i64 0), (.int .i64 0), .nils, .nils], some 1, none, []⟩,
    ⟨.store 4 (.l 2) (.l 1), none, none, []⟩]) (
  .seq (
  .reg [⟨.load true 4 (.v 1), none, none, []⟩,
    ⟨.call 14 [(.l 0), (.c (.int .i64 2)), (.c .nils), (.c .nils)] [(0, 0), (0, 0), (3, 1), (4, 1), (0, 0), (0, 0), (5, 1), (0, 0)] true, none, none, []⟩,
    ⟨.mv (.l 1), none, none, []⟩,
    ⟨.extract (.l 2) 0, none, none, []⟩,
    ⟨.extract (.l 2) 1, none, none, []⟩,
    ⟨.alloc 6 [(.int .i64 0), (.int .i64 0), .nils, .nils, (.int .i64 0), (.bool false), .nils], some 2, none, []⟩,
    ⟨.store 7 (.l 5) (.l 3), none, none, []⟩,
    ⟨.mv (.l 4), some 3, none, []⟩]) (
  .seq (
  .reg [⟨.load true 4 (.v 1), none, none, []⟩,
    ⟨.build [(.int .i64 0), (.int .i64 0), (.int .i64 0)] [(0, 1, (.c (.int .i64 1))), (1, 1, (.c (.int .i64 1)))], none, none, []⟩,
    ⟨.lit 3 [(.agg [(.int .i64 0), (.int .i64 0), (.int .i64 0)])] [(0, (.l 1))], none, none, []⟩,
    ⟨.call 14 [(.l 0), (.c (.int .i64 2)), (.c .nils), (.l 2)] [(0, 0), (0, 0), (7, 1), (8, 1), (0, 0), (0, 0), (9, 1), (0, 0)] true, none, none, []⟩,
    ⟨.mv (.l 3), none, none, []⟩,
    ⟨.extract (.l 4) 0, none, none, []⟩,
    ⟨.extract (.l 4) 1, none, none, []⟩,
    ⟨.alloc 10 [(.int .i64 0), (.int .i64 0), .nils, .nils, (.int .i64 0), (.bool false), .nils], some 4, none, []⟩,
    ⟨.store 7 (.l 7) (.l 5), none, none, []⟩,
    ⟨.mv (.l 6), none, none, []⟩]) (
  .seq (
  .reg [⟨.load true 4 (.v 1), none, none, []⟩,
    ⟨.build [(.int .i64 0), (.int .i64 0), (.int .i64 0)] [(0, 1, (.c (.int .i64 2))), (1, 1, (.c (.int .i64 1)))], none, none, []⟩,
    ⟨.lit 3 [(.agg [(.int .i64 0), (.int .i64 0), (.int .i64 0)])] [(0, (.l 1))], none, none, []⟩,
    ⟨.call 14 [(.l 0), (.c (.int .i64 2)), (.c .nils), (.l 2)] [(0, 0), (0, 0), (11, 1), (12, 1), (0, 0), (0, 0), (13, 1), (0, 0)] true, none, none, []⟩,
    ⟨.mv (.l 3), none, none, []⟩,
    ⟨.extract (.l 4) 0, none, none, []⟩,
    ⟨.extract (.l 4) 1, none, none, []⟩,
    ⟨.alloc 14 [(.int .i64 0), (.int .i64 0), .nils, .nils, (.int .i64 0), (.bool false), .nils], some 5, none, []⟩,
    ⟨.store 7 (.l 7) (.l 5), none, none, []⟩,
    ⟨.mv (.l 6), none, none, []⟩]) (
  .seq (
  .reg [⟨.load true 4 (.v 1), none, none, []⟩,
    ⟨.build [(.int .i64 0), (.int .i64 0), (.int .i64 0)] [(0, 1, (.c (.int .i64 3))), (1, 1, (.c (.int .i64 1)))], none, none, []⟩,
    ⟨.lit 3 [(.agg [(.int .i64 0), (.int .i64 0), (.int .i64 0)])] [(0, (.l 1))], none, none, []⟩,
    ⟨.call 14 [(.l 0), (.c (.int .i64 2)), (.c .nils), (.l 2)] [(0, 0), (0, 0), (15, 1), (16, 1), (0, 0), (0, 0), (17, 1), (0, 0)] true, none, none, []⟩,
    ⟨.mv (.l 3), none, none, []⟩,
    ⟨.extract (.l 4) 0, none, none, []⟩,
    ⟨.extract (.l 4) 1, none, none, []⟩,
    ⟨.alloc 18 [(.int .i64 0), (.int .i64 0), .nils, .nils, (.int .i64 0), (.bool false), .nils], some 6, none, []⟩,
    ⟨.store 7 (.l 7) (.l 5), none, none, []⟩,
    ⟨.mv (.l 6), none, none, []⟩]) (
  .seq (
  .reg [⟨.load true 4 (.v 1), none, none, []⟩,
    ⟨.build [(.int .i64 0), (.int .i64 0), (.int .i64 0)] [(0, 1, (.c (.int .i64 4))), (1, 1, (.c (.int .i64 2)))], none, none, []⟩,
    ⟨.lit 3 [(.agg [(.int .i64 0), (.int .i64 0), (.int .i64 0)])] [(0, (.l 1))], none, none, []⟩,
    ⟨.call 14 [(.l 0), (.c (.int .i64 2)), (.c .nils), (.l 2)] [(0, 0), (0, 0), (19, 1), (20, 1), (0, 0), (0, 0), (21, 1), (0, 0)] true, none, none, []⟩,
    ⟨.mv (.l 3), none, none, []⟩,
    ⟨.extract (.l 4) 0, none, none, []⟩,
    ⟨.extract (.l 4) 1, none, none, []⟩,
    ⟨.alloc 22 [(.int .i64 0), (.int .i64 0), .nils, .nils, (.int .i64 0), (.bool false), .nils], some 7, none, []⟩,
    ⟨.store 7 (.l 7) (.l 5), none, none, []⟩,
    ⟨.mv (.l 6), none, none, []⟩]) (
  .seq (
  .seq (
  .reg [⟨.fieldAddr 0 (.v 4), none, none, []⟩,
    ⟨.load true 4 (.l 0), none, none, []⟩,
    ⟨.call 25 [(.l 1), (.c (.int .i64 48)), (.c (.int .i64 12))] [(0, 0)] true, none, none, []⟩,
    ⟨.un .not (.l 2), none, none, []⟩,
    ⟨.mv (.l 3), none, none, []⟩,
    ⟨.fieldAddr 0 (.v 5), none, some ((.l 4), false), []⟩,
    ⟨.load true 4 (.l 5), none, some ((.l 4), false), []⟩,
    ⟨.call 25 [(.l 6), (.c (.int .i64 48)), (.c (.int .i64 12))] [(0, 0)] true, none, some ((.l 4), false), []⟩,
    ⟨.un .not (.l 7), none, some ((.l 4), false), []⟩,
    ⟨.pick (.l 4) (.c (.bool true)) (.l 8), some 10, none, []⟩]) (
  .cond (.v 10) (
   .seq (
   .reg [⟨.mv (.c (.bool false)), some 0, none, []⟩]) (
   .ret)) (
   .skip))) (
  .seq (
  .reg [⟨.mv (.v 3), none, none, []⟩,
    ⟨.bin .eql false (.l 0) (.c (.int .i64 0)), none, none, []⟩,
    ⟨.mv (.l 1), none, none, []⟩,
    ⟨.load true 7 (.v 2), none, some ((.l 2), true), []⟩,
    ⟨.load true 4 (.v 1), none, some ((.l 2), true), []⟩,
    ⟨.build [(.int .i64 0), (.int .i64 0), .nils, .nils, (.int .i64 0), (.bool false), .nils] [(0, 4, (.l 4)), (4, 1, (.c (.int .i64 2))), (5, 1, (.c (.bool true)))], none, some ((.l 2), true), []⟩,
    ⟨.call 16 [(.l 3), (.l 5)] [(0, 0)] false, none, some ((.l 2), true), []⟩,
    ⟨.pick (.l 2) (.l 6) (.c (.bool false)), none, none, []⟩,
    ⟨.mv (.l 7), none, none, []⟩,
    ⟨.load true 4 (.v 1), none, some ((.l 8), true), []⟩,
    ⟨.load true 7 (.v 2), none, some ((.l 8), true), []⟩,
    ⟨.call 18 [(.l 9), (.l 10)] [(0, 0)] false, none, some ((.l 8), true), []⟩,
    ⟨.pick (.l 8) (.l 11) (.c (.bool false)), none, none, []⟩,
    ⟨.mv (.l 12), none, none, []⟩,
    ⟨.load true 7 (.v 4), none, some ((.l 13), true), [23, 24]⟩,
    ⟨.lit 1 [(.int .i64 0), (.int .i64 0), (.int .i64 0), (.int .i64 0)] [(0, (.c (.int .i64 0))), (1, (.c (.int .i64 0))), (2, (.c (.int .i64 1))), (3, (.c (.int .i64 0)))], none, some ((.l 13), true), []⟩,
    ⟨.call 29 [(.l 15)] [(0, 0), (0, 0), (23, 1), (24, 1)] false, none, some ((.l 13), true), []⟩,
    ⟨.build [(.int .i64 0), (.int .i64 0), .nils, .nils, (.int .i64 0), (.bool false), .nils] [(0, 4, (.l 16)), (4, 1, (.c (.int .i64 1)))], none, some ((.l 13), true), []⟩,
    ⟨.call 16 [(.l 14), (.l 17)] [(0, 0)] false, none, some ((.l 13), true), []⟩,
    ⟨.pick (.l 13) (.l 18) (.c (.bool false)), none, none, []⟩,
    ⟨.mv (.l 19), none, none, []⟩,
    ⟨.load true 4 (.v 1), none, some ((.l 20), true), []⟩,
    ⟨.load true 7 (.v 4), none, some ((.l 20), true), []⟩,
    ⟨.call 18 [(.l 21), (.l 22)] [(0, 0)] false, none, some ((.l 20), true), []⟩,
    ⟨.un .not (.l 23), none, some ((.l 20), true), []⟩,
    ⟨.pick (.l 20) (.l 24) (.c (.bool false)), none, none, []⟩,
    ⟨.mv (.l 25), some 8, none, []⟩]) (
  .seq (
  .reg [⟨.load true 7 (.v 5), none, none, [25, 26]⟩,
    ⟨.lit 1 [(.int .i64 0), (.int .i64 0), (.int .i64 0), (.int .i64 0), (.int .i64 0), (.int .i64 0)] [(0, (.c (.int .i64 0))), (1, (.c (.int .i64 0))), (2, (.c (.int .i64 1))), (3, (.c (.int .i64 0))), (4, (.c (.int .i64 0))), (5, (.c (.int .i64 2)))], none, none, []⟩,
    ⟨.call 29 [(.l 1)] [(0, 0), (0, 0), (25, 1), (26, 1)] false, none, none, []⟩,
    ⟨.build [(.int .i64 0), (.int .i64 0), .nils, .nils, (.int .i64 0), (.bool false), .nils] [(0, 4, (.l 2)), (4, 1, (.c (.int .i64 2))), (5, 1, (.c (.bool true)))], none, none, []⟩,
    ⟨.call 16 [(.l 0), (.l 3)] [(0, 0)] false, none, none, []⟩,
    ⟨.mv (.l 4), none, none, []⟩,
    ⟨.load true 7 (.v 6), none, some ((.l 5), true), [27, 28]⟩,
    ⟨.lit 1 [(.int .i64 0), (.int .i64 0), (.int .i64 0), (.int .i64 0)] [(0, (.c (.int .i64 0))), (1, (.c (.int .i64 0))), (2, (.c (.int .i64 1))), (3, (.c (.int .i64 0)))], none, some ((.l 5), true), []⟩,
    ⟨.call 29 [(.l 7)] [(0, 0), (0, 0), (27, 1), (28, 1)] false, none, some ((.l 5), true), []⟩,
    ⟨.lit 1 [(.int .i64 0)] [(0, (.c (.int .i64 0)))], none, some ((.l 5), true), [27, 28]⟩,
    ⟨.build [(.int .i64 0), (.int .i64 0), .nils, .nils, (.int .i64 0), (.bool false), .nils] [(0, 4, (.l 8)), (4, 1, (.c (.int .i64 2))), (5, 1, (.c (.bool true))), (6, 1, (.l 9))], none, some ((.l 5), true), []⟩,
    ⟨.call 16 [(.l 6), (.l 10)] [(0, 0)] false, none, some ((.l 5), true), []⟩,
    ⟨.pick (.l 5) (.l 11) (.c (.bool false)), none, none, []⟩,
    ⟨.mv (.l 12), none, none, []⟩,
    ⟨.load true 4 (.v 1), none, some ((.l 13), true), []⟩,
    ⟨.load true 7 (.v 7), none, some ((.l 13), true), []⟩,
    ⟨.call 18 [(.l 14), (.l 15)] [(0, 0)] false, none, some ((.l 13), true), []⟩,
    ⟨.pick (.l 13) (.l 16) (.c (.bool false)), none, none, []⟩,
    ⟨.mv (.l 17), some 9, none, []⟩]) (
  .seq (
  .reg [⟨.mv (.v 8), none, none, []⟩,
    ⟨.mv (.l 0), none, none, []⟩,
    ⟨.mv (.v 9), none, some ((.l 1), true), []⟩,
    ⟨.pick (.l 1) (.l 2) (.c (.bool false)), none, none, []⟩,
    ⟨.mv (.l 3), none, none, []⟩,
    ⟨.load true 4 (.v 1), none, some ((.l 4), true), []⟩,
    ⟨.load true 7 (.v 4), none, some ((.l 4), true), []⟩,
    ⟨.call 21 [(.l 5), (.l 6)] [(29, 2)] true, none, some ((.l 4), true), []⟩,
    ⟨.build [(.int .i64 0), (.int .i64 0)] [(0, 1, (.c (.int .i64 0))), (1, 1, (.c (.int .i64 1)))], none, some ((.l 4), true), []⟩,
    ⟨.lit 2 [(.agg [(.int .i64 0), (.int .i64 0)])] [(0, (.l 8))], none, some ((.l 4), true), []⟩,
    ⟨.call 20 [(.l 7), (.l 9)] [(0, 0)] true, none, some ((.l 4), true), []⟩,
    ⟨.pick (.l 4) (.l 10) (.c (.bool false)), none, none, []⟩,
    ⟨.mv (.l 11), none, none, []⟩,
    ⟨.load true 4 (.v 1), none, some ((.l 12), true), []⟩,
    ⟨.load true 7 (.v 5), none, some ((.l 12), true), []⟩,
    ⟨.call 21 [(.l 13), (.l 14)] [(30, 2)] true, none, some ((.l 12), true), []⟩,
    ⟨.build [(.int .i64 0), (.int .i64 0)] [(0, 1, (.c (.int .i64 0))), (1, 1, (.c (.int .i64 1)))], none, some ((.l 12), true), []⟩,
    ⟨.build [(.int .i64 0), (.int .i64 0)] [(0, 1, (.c (.int .i64 0))), (1, 1, (.c (.int .i64 2)))], none, some ((.l 12), true), []⟩,
    ⟨.lit 2 [(.agg [(.int .i64 0), (.int .i64 0)]), (.agg [(.int .i64 0), (.int .i64 0)])] [(0, (.l 16)), (1, (.l 17))], none, some ((.l 12), true), []⟩,
    ⟨.call 20 [(.l 15), (.l 18)] [(0, 0)] true, none, some ((.l 12), true), []⟩,
    ⟨.pick (.l 12) (.l 19) (.c (.bool false)), none, none, []⟩,
    ⟨.mv (.l 20), some 0, none, []⟩]) (
  .ret)))))))))))⟩

theorem c10 : compFn Try.prog 10 = some { X10 with body := strip X10.body } := by kernel_rfl
end Go.Proofs.Ytgdcogoacnghkaa.N
