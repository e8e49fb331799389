/-
  Chapter 27: the laws, as the machine takes them (printed).
-/
import Derived.Test.YtgdcogoacnghkaaProg
import Derived.KernelRfl
import Derived.Test.YtgdcogoacnghkaaQNoX
namespace Go.Proofs.Ytgdcogoacnghkaa.N
set_option linter.unusedSimpArgs false
set_option linter.unusedVariables false
set_option linter.unusedSectionVars false
open Go.Proofs.Ytgdcogoacnghkaa.Am
def X3 : XFn :=
 ⟨81, [0, 1, 2, 3, 6, 7, 8, 9, 10, 11, 12, 13, 14, 15, 58, 60], 18, [(4, none)],
  .seq (
  .reg [⟨.box 0 (.v 0), some 3, none, []⟩,
    ⟨.mv (.c (.bool false)), some 4, none, []⟩]) (
  .seq (
  .reg [⟨.call 10 [] [(0, 0)] true, none, none, []⟩,
    ⟨.mv (.l 0), some 5, none, []⟩]) (
  .seq (
  .reg [⟨.load true 1 (.v 3), none, none, []⟩,
    ⟨.call 11 [(.l 0)] [(0, 0), (0, 0), (1, 1), (2, 1)] true, none, none, []⟩,
    ⟨.mv (.v 2), none, none, []⟩,
    ⟨.call 12 [(.l 2)] [(3, 1)] true, none, none, []⟩,
    ⟨.mv (.v 1), none, none, []⟩,
    ⟨.call 13 [(.l 4)] [(4, 3)] true, none, none, []⟩,
    ⟨.alloc 5 [(.int .i64 0), (.int .i64 0), .nils, .nils], some 6, none, []⟩,
    ⟨.store 4 (.l 6) (.l 1), none, none, []⟩,
    ⟨.mv (.l 3), some 7, none, []⟩,
    ⟨.mv (.l 5), some 8, none, []⟩]) (
  .seq (
  .reg [⟨.mv (.v 1), none, none, []⟩,
    ⟨.len false (.l 0), none, none, []⟩,
    ⟨.bin .rem false (.l 1) (.c (.int .i64 20)), none, none, []⟩,
    ⟨.mv (.l 2), some 9, none, []⟩]) (
  .seq (
  .reg [⟨.load true 4 (.v 6), none, none, []⟩,
    ⟨.mv (.v 9), none, none, []⟩,
    ⟨.mv (.v 7), none, none, []⟩,
    ⟨.mv (.v 8), none, none, []⟩,
    ⟨.call 14 [(.l 0), (.l 1), (.l 2), (.l 3)] [(0, 0), (0, 0), (6, 1), (7, 1), (0, 0), (0, 0), (8, 1), (0, 0)] true, none, none, []⟩,
    ⟨.mv (.l 4), none, none, []⟩,
    ⟨.extract (.l 5) 0, none, none, []⟩,
    ⟨.extract (.l 5) 1, none, none, []⟩,
    ⟨.alloc 9 [(.int .i64 0), (.int .i64 0), .nils, .nils, (.int .i64 0), (.bool false), .nils], some 10, none, []⟩,
    ⟨.store 7 (.l 8) (.l 6), none, none, []⟩,
    ⟨.mv (.l 7), some 11, none, []⟩]) (
  .seq (
  .reg [⟨.load true 4 (.v 6), none, none, []⟩,
    ⟨.mv (.v 9), none, none, []⟩,
    ⟨.mv (.v 7), none, none, []⟩,
    ⟨.build [(.int .i64 0), (.int .i64 0), .nils, .nils, (.int .i64 0), .nils] [(0, 4, (.l 0)), (4, 1, (.l 1)), (5, 1, (.l 2))], none, none, []⟩,
    ⟨.mv (.v 8), none, none, []⟩,
    ⟨.call 15 [(.l 3), (.l 4)] [(0, 0), (0, 0), (10, 1), (11, 1), (0, 0), (0, 0), (12, 1), (0, 0)] true, none, none, []⟩,
    ⟨.mv (.l 5), none, none, []⟩,
    ⟨.extract (.l 6) 0, none, none, []⟩,
    ⟨.extract (.l 6) 1, none, none, []⟩,
    ⟨.alloc 13 [(.int .i64 0), (.int .i64 0), .nils, .nils, (.int .i64 0), (.bool false), .nils], some 12, none, []⟩,
    ⟨.store 7 (.l 9) (.l 7), none, none, []⟩,
    ⟨.mv (.l 8), some 13, none, []⟩]) (
  .seq (
  .seq (
  .reg [⟨.mv (.v 11), none, none, []⟩,
    ⟨.mv (.v 13), none, none, []⟩,
    ⟨.bin .neq false (.l 0) (.l 1), none, none, []⟩,
    ⟨.mv (.l 2), none, none, []⟩,
    ⟨.load true 7 (.v 10), none, some ((.l 3), false), []⟩,
    ⟨.load true 7 (.v 12), none, some ((.l 3), false), []⟩,
    ⟨.call 16 [(.l 4), (.l 5)] [(0, 0)] false, none, some ((.l 3), false), []⟩,
    ⟨.un .not (.l 6), none, some ((.l 3), false), []⟩,
    ⟨.pick (.l 3) (.c (.bool true)) (.l 7), none, none, []⟩,
    ⟨.mv (.l 8), none, none, []⟩,
    ⟨.load true 4 (.v 6), none, some ((.l 9), false), [14, 15]⟩,
    ⟨.load true 1 (.v 3), none, some ((.l 9), false), []⟩,
    ⟨.call 11 [(.l 11)] [(0, 0), (0, 0), (14, 1), (15, 1)] false, none, some ((.l 9), false), []⟩,
    ⟨.call 17 [(.l 10), (.l 12)] [(0, 0)] false, none, some ((.l 9), false), []⟩,
    ⟨.un .not (.l 13), none, some ((.l 9), false), []⟩,
    ⟨.pick (.l 9) (.c (.bool true)) (.l 14), some 14, none, []⟩]) (
  .cond (.v 14) (
   .seq (
   .reg [⟨.mv (.c (.bool false)), some 4, none, []⟩]) (
   .ret)) (
   .skip))) (
  .seq (
  .seq (
  .reg [⟨.mv (.v 11), none, none, []⟩,
    ⟨.bin .neq false (.l 0) (.c (.int .i64 0)), some 15, none, []⟩]) (
  .cond (.v 15) (
   .seq (
   .reg [⟨.mv (.v 5), none, none, []⟩,
     ⟨.mv (.l 0), some 4, none, []⟩]) (
   .ret)) (
   .skip))) (
  .seq (
  .reg [⟨.load true 4 (.v 6), none, none, []⟩,
    ⟨.load true 7 (.v 12), none, none, []⟩,
    ⟨.call 18 [(.l 0), (.l 1)] [(0, 0)] false, none, none, []⟩,
    ⟨.load true 4 (.v 6), none, none, []⟩,
    ⟨.load true 7 (.v 12), none, none, []⟩,
    ⟨.call 19 [(.l 3), (.l 4)] [(0, 0)] false, none, none, []⟩,
    ⟨.bin .eql true (.l 2) (.l 5), none, none, []⟩,
    ⟨.mv (.l 6), none, none, []⟩,
    ⟨.load true 4 (.v 6), none, some ((.l 7), true), []⟩,
    ⟨.load true 7 (.v 12), none, some ((.l 7), true), []⟩,
    ⟨.call 21 [(.l 8), (.l 9)] [(16, 2)] false, none, some ((.l 7), true), []⟩,
    ⟨.load true 4 (.v 6), none, some ((.l 7), true), [16]⟩,
    ⟨.load true 7 (.v 12), none, some ((.l 7), true), [16]⟩,
    ⟨.call 22 [(.l 11), (.l 12)] [(17, 2)] false, none, some ((.l 7), true), []⟩,
    ⟨.call 20 [(.l 10), (.l 13)] [(0, 0)] false, none, some ((.l 7), true), []⟩,
    ⟨.pick (.l 7) (.l 14) (.c (.bool false)), none, none, []⟩,
    ⟨.mv (.l 15), none, none, []⟩,
    ⟨.mv (.v 5), none, some ((.l 16), true), []⟩,
    ⟨.pick (.l 16) (.l 17) (.c (.bool false)), none, none, []⟩,
    ⟨.mv (.l 18), some 4, none, []⟩]) (
  .ret)))))))))⟩

def X4 : XFn :=
 ⟨76, [0, 1, 2, 4, 5, 6, 7, 8, 9, 10, 43], 10, [(3, none)],
  .seq (
  .reg [⟨.box 0 (.v 0), some 2, none, []⟩,
    ⟨.mv (.c (.bool false)), some 3, none, []⟩]) (
  .seq (
  .reg [⟨.call 10 [] [(0, 0)] true, none, none, []⟩,
    ⟨.mv (.l 0), some 4, none, []⟩]) (
  .seq (
  .reg [⟨.load true 1 (.v 2), none, none, []⟩,
    ⟨.call 11 [(.l 0)] [(0, 0), (0, 0), (1, 1), (2, 1)] true, none, none, []⟩,
    ⟨.alloc 3 [(.int .i64 0), (.int .i64 0), .nils, .nils], some 5, none, []⟩,
    ⟨.store 4 (.l 2) (.l 1), none, none, []⟩]) (
  .seq (
  .reg [⟨.load true 4 (.v 5), none, none, [7]⟩,
    ⟨.mv (.v 1), none, none, [7]⟩,
    ⟨.call 23 [(.l 1)] [(0, 0)] false, none, none, [7]⟩,
    ⟨.call 14 [(.l 0), (.l 2), (.c .nils), (.c .nils)] [(0, 0), (0, 0), (4, 1), (5, 1), (0, 0), (0, 0), (6, 1), (0, 0)] false, none, none, [7]⟩,
    ⟨.mv (.l 3), none, none, [7]⟩,
    ⟨.extract (.l 4) 0, none, none, [7]⟩,
    ⟨.extract (.l 4) 1, none, none, [7]⟩,
    ⟨.alloc 7 [(.int .i64 0), (.int .i64 0), .nils, .nils, (.int .i64 0), (.bool false), .nils], some 6, none, [4, 5, 6]⟩,
    ⟨.store 7 (.l 7) (.l 5), none, none, []⟩,
    ⟨.mv (.l 6), some 7, none, []⟩]) (
  .seq (
  .reg [⟨.load true 4 (.v 5), none, none, []⟩,
    ⟨.mv (.v 1), none, none, []⟩,
    ⟨.call 23 [(.l 1)] [(0, 0)] false, none, none, []⟩,
    ⟨.call 24 [(.l 0), (.l 2)] [(8, 3), (0, 0)] false, none, none, []⟩,
    ⟨.mv (.l 3), none, none, []⟩,
    ⟨.extract (.l 4) 0, none, none, []⟩,
    ⟨.extract (.l 4) 1, none, none, []⟩,
    ⟨.mv (.l 5), some 8, none, []⟩,
    ⟨.mv (.l 6), some 9, none, []⟩]) (
  .seq (
  .seq (
  .reg [⟨.mv (.v 7), none, none, []⟩,
    ⟨.bin .neq false (.l 0) (.c (.int .i64 0)), none, none, []⟩,
    ⟨.mv (.l 1), none, none, []⟩,
    ⟨.mv (.v 9), none, some ((.l 2), false), []⟩,
    ⟨.bin .neq false (.l 3) (.c (.int .i64 0)), none, some ((.l 2), false), []⟩,
    ⟨.pick (.l 2) (.c (.bool true)) (.l 4), none, none, []⟩,
    ⟨.mv (.l 5), none, none, []⟩,
    ⟨.fieldAddr 0 (.v 6), none, some ((.l 6), false), []⟩,
    ⟨.load true 4 (.l 7), none, some ((.l 6), false), []⟩,
    ⟨.fieldAddr 0 (.v 5), none, some ((.l 6), false), []⟩,
    ⟨.load false 1 (.l 9), none, some ((.l 6), false), []⟩,
    ⟨.fieldAddr 1 (.v 5), none, some ((.l 6), false), []⟩,
    ⟨.load false 1 (.l 11), none, some ((.l 6), false), []⟩,
    ⟨.call 25 [(.l 8), (.l 10), (.l 12)] [(0, 0)] true, none, some ((.l 6), false), []⟩,
    ⟨.un .not (.l 13), none, some ((.l 6), false), []⟩,
    ⟨.pick (.l 6) (.c (.bool true)) (.l 14), some 10, none, []⟩]) (
  .cond (.v 10) (
   .seq (
   .reg [⟨.mv (.c (.bool false)), some 3, none, []⟩]) (
   .ret)) (
   .skip))) (
  .seq (
  .reg [⟨.load true 4 (.v 5), none, none, []⟩,
    ⟨.load true 7 (.v 6), none, none, []⟩,
    ⟨.call 18 [(.l 0), (.l 1)] [(0, 0)] true, none, none, []⟩,
    ⟨.mv (.l 2), none, none, []⟩,
    ⟨.load true 4 (.v 5), none, some ((.l 3), true), []⟩,
    ⟨.load true 7 (.v 6), none, some ((.l 3), true), []⟩,
    ⟨.call 21 [(.l 4), (.l 5)] [(9, 2)] true, none, some ((.l 3), true), []⟩,
    ⟨.len false (.l 6), none, some ((.l 3), true), []⟩,
    ⟨.bin .eql false (.l 7) (.c (.int .i64 0)), none, some ((.l 3), true), []⟩,
    ⟨.pick (.l 3) (.l 8) (.c (.bool false)), none, none, []⟩,
    ⟨.mv (.l 9), none, none, []⟩,
    ⟨.fieldAddr 0 (.v 6), none, some ((.l 10), true), []⟩,
    ⟨.load true 4 (.l 11), none, some ((.l 10), true), []⟩,
    ⟨.load true 4 (.v 5), none, some ((.l 10), true), []⟩,
    ⟨.call 17 [(.l 12), (.l 13)] [(0, 0)] true, none, some ((.l 10), true), []⟩,
    ⟨.pick (.l 10) (.l 14) (.c (.bool false)), none, none, []⟩,
    ⟨.mv (.l 15), none, none, []⟩,
    ⟨.fieldAddr 4 (.v 6), none, some ((.l 16), true), []⟩,
    ⟨.load false 1 (.l 17), none, some ((.l 16), true), []⟩,
    ⟨.mv (.v 8), none, some ((.l 16), true), []⟩,
    ⟨.len false (.l 19), none, some ((.l 16), true), []⟩,
    ⟨.bin .eql false (.l 18) (.l 20), none, some ((.l 16), true), []⟩,
    ⟨.pick (.l 16) (.l 21) (.c (.bool false)), none, none, []⟩,
    ⟨.mv (.l 22), none, none, []⟩,
    ⟨.fieldAddr 6 (.v 6), none, some ((.l 23), true), []⟩,
    ⟨.load false 1 (.l 24), none, some ((.l 23), true), []⟩,
    ⟨.len false (.l 25), none, some ((.l 23), true), []⟩,
    ⟨.bin .eql false (.l 26) (.c (.int .i64 0)), none, some ((.l 23), true), []⟩,
    ⟨.pick (.l 23) (.l 27) (.c (.bool false)), none, none, []⟩,
    ⟨.mv (.l 28), none, none, []⟩,
    ⟨.mv (.v 4), none, some ((.l 29), true), []⟩,
    ⟨.pick (.l 29) (.l 30) (.c (.bool false)), none, none, []⟩,
    ⟨.mv (.l 31), some 3, none, []⟩]) (
  .ret)))))))⟩

def X5 : XFn :=
 ⟨196, [0, 1, 2, 3, 4, 5, 6, 7, 9, 10, 11, 12, 13, 14, 15, 16, 17, 18, 32, 43, 84, 96, 106, 137, 163], 14, [(4, none)],
  .seq (
  .reg [⟨.box 0 (.v 0), some 2, none, []⟩,
    ⟨.boxA 1 (.v 1), some 3, none, []⟩,
    ⟨.mv (.c (.bool false)), some 4, none, []⟩]) (
  .seq (
  .reg [⟨.call 10 [] [(0, 0)] true, none, none, []⟩,
    ⟨.mv (.l 0), some 5, none, []⟩]) (
  .seq (
  .reg [⟨.load true 1 (.v 2), none, none, []⟩,
    ⟨.call 11 [(.l 0)] [(0, 0), (0, 0), (2, 1), (3, 1)] true, none, none, []⟩,
    ⟨.alloc 4 [(.int .i64 0), (.int .i64 0), .nils, .nils], some 6, none, []⟩,
    ⟨.store 4 (.l 2) (.l 1), none, none, []⟩]) (
  .seq (
  .reg [⟨.load true 4 (.v 6), none, none, []⟩,
    ⟨.indexAddrA 3 1 (.v 3) (.c (.int .i64 0)), none, none, []⟩,
    ⟨.load false 1 (.l 1), none, none, []⟩,
    ⟨.call 23 [(.l 2)] [(0, 0)] false, none, none, []⟩,
    ⟨.call 24 [(.l 0), (.l 3)] [(5, 3), (0, 0)] false, none, none, []⟩,
    ⟨.mv (.l 4), none, none, []⟩,
    ⟨.extract (.l 5) 0, none, none, []⟩,
    ⟨.extract (.l 5) 1, none, none, []⟩,
    ⟨.mv (.l 6), some 7, none, []⟩,
    ⟨.mv (.l 7), none, none, []⟩]) (
  .frz [(5, false)] (
  .seq (
  .seq (
  .reg [⟨.mv (.v 7), none, none, []⟩,
    ⟨.len false (.l 0), none, none, []⟩,
    ⟨.bin .eql false (.l 1) (.c (.int .i64 0)), some 18, none, []⟩]) (
  .cond (.v 18) (
   .seq (
   .reg [⟨.mv (.v 5), none, none, []⟩,
     ⟨.mv (.l 0), some 4, none, []⟩]) (
   .ret)) (
   .skip))) (
  .seq (
  .reg [⟨.indexAddrA 3 1 (.v 3) (.c (.int .i64 1)), none, none, []⟩,
    ⟨.load false 1 (.l 0), none, none, []⟩,
    ⟨.conv .i64 (.l 1), none, none, []⟩,
    ⟨.mv (.v 7), none, none, []⟩,
    ⟨.len false (.l 3), none, none, []⟩,
    ⟨.bin .rem false (.l 2) (.l 4), none, none, []⟩,
    ⟨.mv (.l 5), some 8, none, []⟩,
    ⟨.mv (.c (.int .i64 1)), some 9, none, []⟩]) (
  .seq (
  .seq (
  .reg [⟨.indexAddrA 3 1 (.v 3) (.c (.int .i64 2)), none, none, []⟩,
    ⟨.load false 1 (.l 0), none, none, []⟩,
    ⟨.bin .rem false (.l 1) (.c (.int .u8 2)), none, none, []⟩,
    ⟨.bin .eql false (.l 2) (.c (.int .u8 1)), some 19, none, []⟩]) (
  .cond (.v 19) (
   .reg [⟨.mv (.c (.int .i64 4)), some 9, none, []⟩]) (
   .skip))) (
  .seq (
  .reg [⟨.load true 4 (.v 6), none, none, [9]⟩,
    ⟨.indexAddrA 3 1 (.v 3) (.c (.int .i64 0)), none, none, [9]⟩,
    ⟨.load false 1 (.l 1), none, none, [9]⟩,
    ⟨.call 23 [(.l 2)] [(0, 0)] false, none, none, [9]⟩,
    ⟨.mv (.v 9), none, none, [9]⟩,
    ⟨.mv (.v 8), none, none, [9]⟩,
    ⟨.build [(.int .i64 0), (.int .i64 0), (.int .i64 0)] [(0, 1, (.l 4)), (1, 1, (.l 5))], none, none, [9]⟩,
    ⟨.mv (.v 8), none, none, [9]⟩,
    ⟨.build [(.int .i64 0), (.int .i64 0), (.int .i64 0)] [(0, 1, (.c (.int .i64 2))), (1, 1, (.l 7))], none, none, [9]⟩,
    ⟨.lit 3 [(.agg [(.int .i64 0), (.int .i64 0), (.int .i64 0)]), (.agg [(.int .i64 0), (.int .i64 0), (.int .i64 0)])] [(0, (.l 6)), (1, (.l 8))], none, none, [9]⟩,
    ⟨.call 14 [(.l 0), (.l 3), (.c .nils), (.l 9)] [(0, 0), (0, 0), (6, 1), (7, 1), (0, 0), (0, 0), (8, 1), (0, 0)] false, none, none, [9]⟩,
    ⟨.mv (.l 10), none, none, [9]⟩,
    ⟨.extract (.l 11) 0, none, none, [9]⟩,
    ⟨.extract (.l 11) 1, none, none, [9]⟩,
    ⟨.alloc 9 [(.int .i64 0), (.int .i64 0), .nils, .nils, (.int .i64 0), (.bool false), .nils], some 10, none, [6, 7, 8]⟩,
    ⟨.store 7 (.l 14) (.l 12), none, none, []⟩,
    ⟨.mv (.l 13), some 11, none, []⟩]) (
  .seq (
  .seq (
  .reg [⟨.mv (.v 11), none, none, []⟩,
    ⟨.bin .neq false (.l 0) (.c (.int .i64 0)), none, none, []⟩,
    ⟨.mv (.l 1), none, none, []⟩,
    ⟨.fieldAddr 5 (.v 10), none, some ((.l 2), false), []⟩,
    ⟨.load false 1 (.l 3), none, some ((.l 2), false), []⟩,
    ⟨.pick (.l 2) (.c (.bool true)) (.l 4), none, none, []⟩,
    ⟨.mv (.l 5), none, none, []⟩,
    ⟨.fieldAddr 4 (.v 10), none, some ((.l 6), false), []⟩,
    ⟨.load false 1 (.l 7), none, some ((.l 6), false), []⟩,
    ⟨.mv (.v 8), none, some ((.l 6), false), []⟩,
    ⟨.bin .neq false (.l 8) (.l 9), none, some ((.l 6), false), []⟩,
    ⟨.pick (.l 6) (.c (.bool true)) (.l 10), none, none, []⟩,
    ⟨.mv (.l 11), none, none, []⟩,
    ⟨.fieldAddr 0 (.v 10), none, some ((.l 12), false), []⟩,
    ⟨.load true 4 (.l 13), none, some ((.l 12), false), []⟩,
    ⟨.fieldAddr 0 (.v 6), none, some ((.l 12), false), []⟩,
    ⟨.load false 1 (.l 15), none, some ((.l 12), false), []⟩,
    ⟨.fieldAddr 1 (.v 6), none, some ((.l 12), false), []⟩,
    ⟨.load false 1 (.l 17), none, some ((.l 12), false), []⟩,
    ⟨.call 25 [(.l 14), (.l 16), (.l 18)] [(0, 0)] true, none, some ((.l 12), false), []⟩,
    ⟨.un .not (.l 19), none, some ((.l 12), false), []⟩,
    ⟨.pick (.l 12) (.c (.bool true)) (.l 20), none, none, []⟩,
    ⟨.mv (.l 21), none, none, []⟩,
    ⟨.load true 4 (.v 6), none, some ((.l 22), false), []⟩,
    ⟨.load true 7 (.v 10), none, some ((.l 22), false), []⟩,
    ⟨.call 18 [(.l 23), (.l 24)] [(0, 0)] true, none, some ((.l 22), false), []⟩,
    ⟨.pick (.l 22) (.c (.bool true)) (.l 25), some 20, none, []⟩]) (
  .cond (.v 20) (
   .seq (
   .reg [⟨.mv (.c (.bool false)), some 4, none, []⟩]) (
   .ret)) (
   .skip))) (
  .seq (
  .reg [⟨.load true 4 (.v 6), none, none, []⟩,
    ⟨.load true 7 (.v 10), none, none, []⟩,
    ⟨.call 21 [(.l 0), (.l 1)] [(10, 2)] true, none, none, []⟩,
    ⟨.mv (.l 2), some 12, none, []⟩]) (
  .seq (
  .reg [⟨.fieldAddr 0 (.v 6), none, none, []⟩,
    ⟨.load false 1 (.l 0), none, none, []⟩,
    ⟨.fieldAddr 1 (.v 6), none, none, []⟩,
    ⟨.load false 1 (.l 2), none, none, []⟩,
    ⟨.call 26 [(.l 1), (.l 3)] [(0, 0), (0, 0), (11, 1), (12, 1)] true, none, none, []⟩,
    ⟨.alloc 13 [(.int .i64 0), (.int .i64 0), .nils, .nils], some 14, none, []⟩,
    ⟨.mv (.c (.int .i64 0)), some 13, none, []⟩,
    ⟨.store 4 (.l 5) (.l 4), none, none, []⟩]) (
  .seq (
  .seq (
  .reg [⟨.mv (.c (.int .i64 0)), some 15, none, []⟩]) (
  .block 0 (
   .loopS [5, 7, 8, 10, 12, 13, 14, 15] 14 (
    .seq (
    .seq (
    .reg [⟨.mv (.v 15), none, none, []⟩,
      ⟨.mv (.v 7), none, none, []⟩,
      ⟨.len false (.l 1), none, none, []⟩,
      ⟨.bin .lss false (.l 0) (.l 2), some 21, none, []⟩]) (
    .cond (.v 21) (
     .skip) (
     .exit 0))) (
    .seq (
    .block 1 (
     .seq (
     .seq (
     .reg [⟨.mv (.c (.int .i64 0)), some 16, none, []⟩]) (
     .block 2 (
      .loopS [5, 7, 8, 10, 12, 13, 14, 15, 16] 14 (
       .seq (
       .seq (
       .reg [⟨.mv (.v 16), none, none, []⟩,
         ⟨.mv (.v 7), none, none, []⟩,
         ⟨.mv (.v 15), none, none, []⟩,
         ⟨.indexAddr 3 (.l 1) (.l 2), none, none, []⟩,
         ⟨.fieldAddr 1 (.l 3), none, none, []⟩,
         ⟨.load false 1 (.l 4), none, none, []⟩,
         ⟨.len false (.l 5), none, none, []⟩,
         ⟨.bin .lss false (.l 0) (.l 6), some 22, none, []⟩]) (
       .cond (.v 22) (
        .skip) (
        .exit 2))) (
       .seq (
       .block 3 (
        .reg [⟨.fieldAddr 2 (.v 14), none, none, []⟩,
          ⟨.load false 1 (.l 0), none, none, []⟩,
          ⟨.mv (.v 7), none, none, []⟩,
          ⟨.mv (.v 15), none, none, []⟩,
          ⟨.indexAddr 3 (.l 2) (.l 3), none, none, []⟩,
          ⟨.fieldAddr 0 (.l 4), none, none, []⟩,
          ⟨.load false 1 (.l 5), none, none, []⟩,
          ⟨.indexAddr 1 (.l 1) (.l 6), none, none, []⟩,
          ⟨.load false 1 (.l 7), none, none, []⟩,
          ⟨.mv (.v 7), none, none, []⟩,
          ⟨.mv (.v 15), none, none, []⟩,
          ⟨.indexAddr 3 (.l 9) (.l 10), none, none, []⟩,
          ⟨.fieldAddr 1 (.l 11), none, none, []⟩,
          ⟨.load false 1 (.l 12), none, none, []⟩,
          ⟨.mv (.v 16), none, none, []⟩,
          ⟨.indexAddr 1 (.l 13) (.l 14), none, none, []⟩,
          ⟨.load false 1 (.l 15), none, none, []⟩,
          ⟨.mv (.v 15), none, none, []⟩,
          ⟨.mv (.v 8), none, none, []⟩,
          ⟨.bin .lss false (.l 17) (.l 18), none, none, []⟩,
          ⟨.indexAddr 1 (.l 8) (.l 16), none, none, []⟩,
          ⟨.store 1 (.l 20) (.l 19), none, none, []⟩])) (
       .reg [⟨.mv (.v 16), none, none, []⟩,
         ⟨.bin .add false (.l 0) (.c (.int .i64 1)), none, none, []⟩,
         ⟨.mv (.l 1), some 16, none, []⟩])))))) (
     .seq (
     .seq (
     .reg [⟨.mv (.c (.int .i64 0)), some 17, none, []⟩]) (
     .block 4 (
      .loopS [5, 7, 8, 10, 12, 13, 14, 15, 17] 14 (
       .seq (
       .seq (
       .reg [⟨.mv (.v 17), none, none, []⟩,
         ⟨.mv (.v 7), none, none, []⟩,
         ⟨.mv (.v 15), none, none, []⟩,
         ⟨.indexAddr 3 (.l 1) (.l 2), none, none, []⟩,
         ⟨.fieldAddr 2 (.l 3), none, none, []⟩,
         ⟨.load false 1 (.l 4), none, none, []⟩,
         ⟨.len false (.l 5), none, none, []⟩,
         ⟨.bin .lss false (.l 0) (.l 6), some 23, none, []⟩]) (
       .cond (.v 23) (
        .skip) (
        .exit 4))) (
       .seq (
       .block 5 (
        .reg [⟨.fieldAddr 3 (.v 14), none, none, []⟩,
          ⟨.load false 1 (.l 0), none, none, []⟩,
          ⟨.mv (.v 7), none, none, []⟩,
          ⟨.mv (.v 15), none, none, []⟩,
          ⟨.indexAddr 3 (.l 2) (.l 3), none, none, []⟩,
          ⟨.fieldAddr 0 (.l 4), none, none, []⟩,
          ⟨.load false 1 (.l 5), none, none, []⟩,
          ⟨.indexAddr 1 (.l 1) (.l 6), none, none, []⟩,
          ⟨.load false 1 (.l 7), none, none, []⟩,
          ⟨.mv (.v 7), none, none, []⟩,
          ⟨.mv (.v 15), none, none, []⟩,
          ⟨.indexAddr 3 (.l 9) (.l 10), none, none, []⟩,
          ⟨.fieldAddr 2 (.l 11), none, none, []⟩,
          ⟨.load false 1 (.l 12), none, none, []⟩,
          ⟨.mv (.v 17), none, none, []⟩,
          ⟨.indexAddr 1 (.l 13) (.l 14), none, none, []⟩,
          ⟨.load false 1 (.l 15), none, none, []⟩,
          ⟨.mv (.v 15), none, none, []⟩,
          ⟨.mv (.v 8), none, none, []⟩,
          ⟨.bin .lss false (.l 17) (.l 18), none, none, []⟩,
          ⟨.indexAddr 1 (.l 8) (.l 16), none, none, []⟩,
          ⟨.store 1 (.l 20) (.l 19), none, none, []⟩])) (
       .reg [⟨.mv (.v 17), none, none, []⟩,
         ⟨.bin .add false (.l 0) (.c (.int .i64 1)), none, none, []⟩,
         ⟨.mv (.l 1), some 17, none, []⟩])))))) (
     .seq (
     .reg [⟨.mv (.v 15), none, none, []⟩,
       ⟨.mv (.v 8), none, none, []⟩,
       ⟨.bin .geq false (.l 0) (.l 1), some 24, none, []⟩]) (
     .cond (.v 24) (
      .reg [⟨.mv (.v 13), none, none, []⟩,
        ⟨.mv (.v 7), none, none, []⟩,
        ⟨.mv (.v 15), none, none, []⟩,
        ⟨.indexAddr 3 (.l 1) (.l 2), none, none, []⟩,
        ⟨.fieldAddr 1 (.l 3), none, none, []⟩,
        ⟨.load false 1 (.l 4), none, none, []⟩,
        ⟨.len false (.l 5), none, none, []⟩,
        ⟨.mv (.v 7), none, none, []⟩,
        ⟨.mv (.v 15), none, none, []⟩,
        ⟨.indexAddr 3 (.l 7) (.l 8), none, none, []⟩,
        ⟨.fieldAddr 2 (.l 9), none, none, []⟩,
        ⟨.load false 1 (.l 10), none, none, []⟩,
        ⟨.len false (.l 11), none, none, []⟩,
        ⟨.bin .add false (.l 6) (.l 12), none, none, []⟩,
        ⟨.bin .add false (.l 0) (.l 13), none, none, []⟩,
        ⟨.mv (.l 14), some 13, none, []⟩]) (
      .skip)))))) (
    .reg [⟨.mv (.v 15), none, none, []⟩,
      ⟨.bin .add false (.l 0) (.c (.int .i64 1)), none, none, []⟩,
      ⟨.mv (.l 1), some 15, none, []⟩])))))) (
  .seq (
  .reg [⟨.mv (.v 12), none, none, []⟩,
    ⟨.len false (.l 0), none, none, []⟩,
    ⟨.mv (.v 13), none, none, []⟩,
    ⟨.bin .eql false (.l 1) (.l 2), none, none, []⟩,
    ⟨.mv (.l 3), none, none, []⟩,
    ⟨.mv (.v 13), none, some ((.l 4), true), []⟩,
    ⟨.bin .gtr false (.l 5) (.c (.int .i64 0)), none, some ((.l 4), true), []⟩,
    ⟨.pick (.l 4) (.l 6) (.c (.bool false)), none, none, []⟩,
    ⟨.mv (.l 7), none, none, []⟩,
    ⟨.fieldAddr 0 (.v 10), none, some ((.l 8), true), []⟩,
    ⟨.load true 4 (.l 9), none, some ((.l 8), true), []⟩,
    ⟨.load true 4 (.v 14), none, some ((.l 8), true), []⟩,
    ⟨.call 17 [(.l 10), (.l 11)] [(0, 0)] true, none, some ((.l 8), true), []⟩,
    ⟨.pick (.l 8) (.l 12) (.c (.bool false)), none, none, []⟩,
    ⟨.mv (.l 13), none, none, []⟩,
    ⟨.mv (.v 5), none, some ((.l 14), true), []⟩,
    ⟨.pick (.l 14) (.l 15) (.c (.bool false)), none, none, []⟩,
    ⟨.mv (.l 16), some 4, none, []⟩]) (
  .ret))))))))))))))⟩

def X6 : XFn :=
 ⟨117, [0, 1, 2, 3, 6, 7, 8, 9, 10, 11, 12, 13, 14, 15, 16, 17, 18, 47, 85], 23, [(4, none)],
  .seq (
  .reg [⟨.box 0 (.v 0), some 3, none, []⟩,
    ⟨.mv (.c (.bool false)), some 4, none, []⟩]) (
  .seq (
  .reg [⟨.call 10 [] [(0, 0)] true, none, none, []⟩,
    ⟨.mv (.l 0), some 5, none, []⟩]) (
  .seq (
  .reg [⟨.load true 1 (.v 3), none, none, []⟩,
    ⟨.call 11 [(.l 0)] [(0, 0), (0, 0), (1, 1), (2, 1)] true, none, none, []⟩,
    ⟨.mv (.v 1), none, none, []⟩,
    ⟨.call 12 [(.l 2)] [(3, 1)] true, none, none, []⟩,
    ⟨.alloc 4 [(.int .i64 0), (.int .i64 0), .nils, .nils], some 6, none, []⟩,
    ⟨.store 4 (.l 4) (.l 1), none, none, []⟩,
    ⟨.mv (.l 3), some 7, none, []⟩]) (
  .seq (
  .reg [⟨.load true 4 (.v 6), none, none, []⟩,
    ⟨.mv (.v 7), none, none, []⟩,
    ⟨.call 27 [(.l 0), (.l 1)] [(0, 0), (0, 0), (5, 1), (6, 1)] true, none, none, []⟩,
    ⟨.alloc 7 [(.int .i64 0), (.int .i64 0), .nils, .nils], some 8, none, []⟩,
    ⟨.store 4 (.l 3) (.l 2), none, none, []⟩]) (
  .seq (
  .reg [⟨.load true 4 (.v 6), none, none, [11]⟩,
    ⟨.mv (.v 2), none, none, [11]⟩,
    ⟨.call 23 [(.l 1)] [(0, 0)] false, none, none, [11]⟩,
    ⟨.mv (.v 7), none, none, [11]⟩,
    ⟨.call 14 [(.l 0), (.l 2), (.l 3), (.c .nils)] [(0, 0), (0, 0), (8, 1), (9, 1), (0, 0), (0, 0), (10, 1), (0, 0)] false, none, none, [11]⟩,
    ⟨.mv (.l 4), none, none, [11]⟩,
    ⟨.extract (.l 5) 0, none, none, [11]⟩,
    ⟨.extract (.l 5) 1, none, none, [11]⟩,
    ⟨.alloc 11 [(.int .i64 0), (.int .i64 0), .nils, .nils, (.int .i64 0), (.bool false), .nils], some 9, none, [8, 9, 10]⟩,
    ⟨.store 7 (.l 8) (.l 6), none, none, []⟩,
    ⟨.mv (.l 7), some 10, none, []⟩]) (
  .seq (
  .reg [⟨.load true 4 (.v 8), none, none, [15]⟩,
    ⟨.mv (.v 2), none, none, [15]⟩,
    ⟨.call 23 [(.l 1)] [(0, 0)] false, none, none, [15]⟩,
    ⟨.mv (.v 7), none, none, [15]⟩,
    ⟨.call 14 [(.l 0), (.l 2), (.l 3), (.c .nils)] [(0, 0), (0, 0), (12, 1), (13, 1), (0, 0), (0, 0), (14, 1), (0, 0)] false, none, none, [15]⟩,
    ⟨.mv (.l 4), none, none, [15]⟩,
    ⟨.extract (.l 5) 0, none, none, [15]⟩,
    ⟨.extract (.l 5) 1, none, none, [15]⟩,
    ⟨.alloc 15 [(.int .i64 0), (.int .i64 0), .nils, .nils, (.int .i64 0), (.bool false), .nils], some 11, none, [12, 13, 14]⟩,
    ⟨.store 7 (.l 8) (.l 6), none, none, []⟩,
    ⟨.mv (.l 7), some 12, none, []⟩]) (
  .seq (
  .reg [⟨.mkarr 16 3 [] [], none, none, []⟩,
    ⟨.mv (.l 0), some 13, none, []⟩]) (
  .seq (
  .seq (
  .reg [⟨.mv (.c (.int .i64 0)), some 14, none, []⟩]) (
  .block 0 (
   .loopS [2, 5, 6, 7, 8, 9, 10, 11, 12, 13, 14] 23 (
    .seq (
    .seq (
    .reg [⟨.mv (.v 14), none, none, []⟩,
      ⟨.mv (.v 7), none, none, []⟩,
      ⟨.len false (.l 1), none, none, []⟩,
      ⟨.bin .lss false (.l 0) (.l 2), some 17, none, []⟩]) (
    .cond (.v 17) (
     .skip) (
     .exit 0))) (
    .seq (
    .block 1 (
     .reg [⟨.mv (.v 13), none, none, []⟩,
       ⟨.mv (.v 7), none, none, []⟩,
       ⟨.mv (.v 14), none, none, []⟩,
       ⟨.indexAddr 1 (.l 1) (.l 2), none, none, []⟩,
       ⟨.load false 1 (.l 3), none, none, []⟩,
       ⟨.build [(.int .i64 0), (.int .i64 0), (.int .i64 0)] [(0, 1, (.c (.int .i64 3))), (2, 1, (.l 4))], none, none, []⟩,
       ⟨.mkarr 17 3 [(.agg [(.int .i64 0), (.int .i64 0), (.int .i64 0)])] [(0, (.l 5))], none, none, []⟩,
       ⟨.append 18 3 24 1 (.l 0) (.l 6), none, none, []⟩,
       ⟨.mv (.l 7), some 13, none, []⟩])) (
    .reg [⟨.mv (.v 14), none, none, []⟩,
      ⟨.bin .add false (.l 0) (.c (.int .i64 1)), none, none, []⟩,
      ⟨.mv (.l 1), some 14, none, []⟩])))))) (
  .seq (
  .reg [⟨.load true 4 (.v 6), none, none, [22]⟩,
    ⟨.mv (.v 2), none, none, [22]⟩,
    ⟨.call 23 [(.l 1)] [(0, 0)] false, none, none, [22]⟩,
    ⟨.mv (.v 13), none, none, [22]⟩,
    ⟨.call 14 [(.l 0), (.l 2), (.c .nils), (.l 3)] [(0, 0), (0, 0), (19, 1), (20, 1), (0, 0), (0, 0), (21, 1), (0, 0)] false, none, none, [22]⟩,
    ⟨.mv (.l 4), none, none, [22]⟩,
    ⟨.extract (.l 5) 0, none, none, [22]⟩,
    ⟨.extract (.l 5) 1, none, none, [22]⟩,
    ⟨.alloc 22 [(.int .i64 0), (.int .i64 0), .nils, .nils, (.int .i64 0), (.bool false), .nils], some 15, none, [19, 20, 21]⟩,
    ⟨.store 7 (.l 8) (.l 6), none, none, []⟩,
    ⟨.mv (.l 7), some 16, none, []⟩]) (
  .seq (
  .seq (
  .reg [⟨.mv (.v 10), none, none, []⟩,
    ⟨.bin .neq false (.l 0) (.c (.int .i64 0)), none, none, []⟩,
    ⟨.mv (.l 1), none, none, []⟩,
    ⟨.mv (.v 12), none, some ((.l 2), false), []⟩,
    ⟨.bin .neq false (.l 3) (.c (.int .i64 0)), none, some ((.l 2), false), []⟩,
    ⟨.pick (.l 2) (.c (.bool true)) (.l 4), none, none, []⟩,
    ⟨.mv (.l 5), none, none, []⟩,
    ⟨.mv (.v 16), none, some ((.l 6), false), []⟩,
    ⟨.bin .neq false (.l 7) (.c (.int .i64 0)), none, some ((.l 6), false), []⟩,
    ⟨.pick (.l 6) (.c (.bool true)) (.l 8), none, none, []⟩,
    ⟨.mv (.l 9), none, none, []⟩,
    ⟨.fieldAddr 0 (.v 9), none, some ((.l 10), false), []⟩,
    ⟨.load true 4 (.l 11), none, some ((.l 10), false), []⟩,
    ⟨.fieldAddr 0 (.v 6), none, some ((.l 10), false), []⟩,
    ⟨.load false 1 (.l 13), none, some ((.l 10), false), []⟩,
    ⟨.fieldAddr 1 (.v 6), none, some ((.l 10), false), []⟩,
    ⟨.load false 1 (.l 15), none, some ((.l 10), false), []⟩,
    ⟨.call 25 [(.l 12), (.l 14), (.l 16)] [(0, 0)] true, none, some ((.l 10), false), []⟩,
    ⟨.un .not (.l 17), none, some ((.l 10), false), []⟩,
    ⟨.pick (.l 10) (.c (.bool true)) (.l 18), some 18, none, []⟩]) (
  .cond (.v 18) (
   .seq (
   .reg [⟨.mv (.c (.bool false)), some 4, none, []⟩]) (
   .ret)) (
   .skip))) (
  .seq (
  .reg [⟨.fieldAddr 0 (.v 9), none, none, []⟩,
    ⟨.load true 4 (.l 0), none, none, []⟩,
    ⟨.load true 4 (.v 8), none, none, []⟩,
    ⟨.call 17 [(.l 1), (.l 2)] [(0, 0)] false, none, none, []⟩,
    ⟨.mv (.l 3), none, none, []⟩,
    ⟨.fieldAddr 5 (.v 9), none, some ((.l 4), true), []⟩,
    ⟨.load false 1 (.l 5), none, some ((.l 4), true), []⟩,
    ⟨.pick (.l 4) (.l 6) (.c (.bool false)), none, none, []⟩,
    ⟨.mv (.l 7), none, none, []⟩,
    ⟨.load true 4 (.v 8), none, some ((.l 8), true), []⟩,
    ⟨.load true 7 (.v 11), none, some ((.l 8), true), []⟩,
    ⟨.call 18 [(.l 9), (.l 10)] [(0, 0)] false, none, some ((.l 8), true), []⟩,
    ⟨.pick (.l 8) (.l 11) (.c (.bool false)), none, none, []⟩,
    ⟨.mv (.l 12), none, none, []⟩,
    ⟨.load true 4 (.v 6), none, some ((.l 13), true), []⟩,
    ⟨.load true 7 (.v 9), none, some ((.l 13), true), []⟩,
    ⟨.call 18 [(.l 14), (.l 15)] [(0, 0)] false, none, some ((.l 13), true), []⟩,
    ⟨.load true 4 (.v 6), none, some ((.l 13), true), []⟩,
    ⟨.load true 4 (.v 8), none, some ((.l 13), true), []⟩,
    ⟨.call 17 [(.l 17), (.l 18)] [(0, 0)] false, none, some ((.l 13), true), []⟩,
    ⟨.bin .eql true (.l 16) (.l 19), none, some ((.l 13), true), []⟩,
    ⟨.pick (.l 13) (.l 20) (.c (.bool false)), none, none, []⟩,
    ⟨.mv (.l 21), none, none, []⟩,
    ⟨.fieldAddr 0 (.v 15), none, some ((.l 22), true), []⟩,
    ⟨.load true 4 (.l 23), none, some ((.l 22), true), []⟩,
    ⟨.load true 4 (.v 8), none, some ((.l 22), true), []⟩,
    ⟨.call 17 [(.l 24), (.l 25)] [(0, 0)] false, none, some ((.l 22), true), []⟩,
    ⟨.pick (.l 22) (.l 26) (.c (.bool false)), none, none, []⟩,
    ⟨.mv (.l 27), none, none, []⟩,
    ⟨.mv (.v 5), none, some ((.l 28), true), []⟩,
    ⟨.pick (.l 28) (.l 29) (.c (.bool false)), none, none, []⟩,
    ⟨.mv (.l 30), some 4, none, []⟩]) (
  .ret)))))))))))⟩

def X7 : XFn :=
 ⟨97, [0, 1, 2, 4, 5, 6, 7, 8, 9, 10, 11, 32, 38], 11, [(3, none)],
  .seq (
  .reg [⟨.box 0 (.v 0), some 2, none, []⟩,
    ⟨.mv (.c (.bool false)), some 3, none, []⟩]) (
  .seq (
  .reg [⟨.call 10 [] [(0, 0)] true, none, none, []⟩,
    ⟨.mv (.l 0), some 4, none, []⟩]) (
  .seq (
  .reg [⟨.load true 1 (.v 2), none, none, []⟩,
    ⟨.call 11 [(.l 0)] [(0, 0), (0, 0), (1, 1), (2, 1)] true, none, none, []⟩,
    ⟨.alloc 3 [(.int .i64 0), (.int .i64 0), .nils, .nils], some 5, none, []⟩,
    ⟨.store 4 (.l 2) (.l 1), none, none, []⟩]) (
  .seq (
  .reg [⟨.load true 4 (.v 5), none, none, [7]⟩,
    ⟨.mv (.v 1), none, none, [7]⟩,
    ⟨.call 23 [(.l 1)] [(0, 0)] false, none, none, [7]⟩,
    ⟨.build [(.int .i64 0), (.int .i64 0), (.int .i64 0)] [(0, 1, (.c (.int .i64 2)))], none, none, [7]⟩,
    ⟨.lit 3 [(.agg [(.int .i64 0), (.int .i64 0), (.int .i64 0)])] [(0, (.l 3))], none, none, [7]⟩,
    ⟨.call 14 [(.l 0), (.l 2), (.c .nils), (.l 4)] [(0, 0), (0, 0), (4, 1), (5, 1), (0, 0), (0, 0), (6, 1), (0, 0)] false, none, none, [7]⟩,
    ⟨.mv (.l 5), none, none, [7]⟩,
    ⟨.extract (.l 6) 0, none, none, [7]⟩,
    ⟨.extract (.l 6) 1, none, none, [7]⟩,
    ⟨.alloc 7 [(.int .i64 0), (.int .i64 0), .nils, .nils, (.int .i64 0), (.bool false), .nils], some 6, none, [4, 5, 6]⟩,
    ⟨.store 7 (.l 9) (.l 7), none, none, []⟩,
    ⟨.mv (.l 8), some 7, none, []⟩]) (
  .seq (
  .reg [⟨.fieldAddr 0 (.v 5), none, none, []⟩,
    ⟨.load false 1 (.l 0), none, none, []⟩,
    ⟨.fieldAddr 1 (.v 5), none, none, []⟩,
    ⟨.load false 1 (.l 2), none, none, []⟩,
    ⟨.call 26 [(.l 1), (.l 3)] [(0, 0), (0, 0), (8, 1), (9, 1)] true, none, none, []⟩,
    ⟨.alloc 10 [(.int .i64 0), (.int .i64 0), .nils, .nils], some 8, none, []⟩,
    ⟨.store 4 (.l 5) (.l 4), none, none, []⟩]) (
  .seq (
  .seq (
  .reg [⟨.mv (.c (.int .i64 1)), some 9, none, []⟩]) (
  .block 0 (
   .loopS [4, 5, 6, 7, 8, 9] 11 (
    .seq (
    .seq (
    .reg [⟨.mv (.v 9), none, none, []⟩,
      ⟨.fieldAddr 1 (.v 5), none, none, []⟩,
      ⟨.load false 1 (.l 1), none, none, []⟩,
      ⟨.bin .lss false (.l 0) (.l 2), some 11, none, []⟩]) (
    .cond (.v 11) (
     .skip) (
     .exit 0))) (
    .seq (
    .block 1 (
     .seq (
     .reg [⟨.mv (.c (.int .i64 0)), some 10, none, []⟩]) (
     .block 2 (
      .loopS [4, 5, 6, 7, 8, 9, 10] 11 (
       .seq (
       .seq (
       .reg [⟨.mv (.v 10), none, none, []⟩,
         ⟨.fieldAddr 0 (.v 5), none, none, []⟩,
         ⟨.load false 1 (.l 1), none, none, []⟩,
         ⟨.bin .lss false (.l 0) (.l 2), some 12, none, []⟩]) (
       .cond (.v 12) (
        .skip) (
        .exit 2))) (
       .seq (
       .block 3 (
        .seq (
        .reg [⟨.fieldAddr 2 (.v 8), none, none, []⟩,
          ⟨.load false 1 (.l 0), none, none, []⟩,
          ⟨.mv (.v 9), none, none, []⟩,
          ⟨.indexAddr 1 (.l 1) (.l 2), none, none, []⟩,
          ⟨.load false 1 (.l 3), none, none, []⟩,
          ⟨.mv (.v 10), none, none, []⟩,
          ⟨.fieldAddr 2 (.v 5), none, none, []⟩,
          ⟨.load false 1 (.l 6), none, none, []⟩,
          ⟨.mv (.v 9), none, none, []⟩,
          ⟨.bin .sub false (.l 8) (.c (.int .i64 1)), none, none, []⟩,
          ⟨.indexAddr 1 (.l 7) (.l 9), none, none, []⟩,
          ⟨.load false 1 (.l 10), none, none, []⟩,
          ⟨.mv (.v 10), none, none, []⟩,
          ⟨.indexAddr 1 (.l 11) (.l 12), none, none, []⟩,
          ⟨.load false 1 (.l 13), none, none, []⟩,
          ⟨.indexAddr 1 (.l 4) (.l 5), none, none, []⟩,
          ⟨.store 1 (.l 15) (.l 14), none, none, []⟩]) (
        .reg [⟨.fieldAddr 3 (.v 8), none, none, []⟩,
          ⟨.load false 1 (.l 0), none, none, []⟩,
          ⟨.mv (.v 9), none, none, []⟩,
          ⟨.indexAddr 1 (.l 1) (.l 2), none, none, []⟩,
          ⟨.load false 1 (.l 3), none, none, []⟩,
          ⟨.mv (.v 10), none, none, []⟩,
          ⟨.fieldAddr 3 (.v 5), none, none, []⟩,
          ⟨.load false 1 (.l 6), none, none, []⟩,
          ⟨.mv (.v 9), none, none, []⟩,
          ⟨.bin .sub false (.l 8) (.c (.int .i64 1)), none, none, []⟩,
          ⟨.indexAddr 1 (.l 7) (.l 9), none, none, []⟩,
          ⟨.load false 1 (.l 10), none, none, []⟩,
          ⟨.mv (.v 10), none, none, []⟩,
          ⟨.indexAddr 1 (.l 11) (.l 12), none, none, []⟩,
          ⟨.load false 1 (.l 13), none, none, []⟩,
          ⟨.indexAddr 1 (.l 4) (.l 5), none, none, []⟩,
          ⟨.store 1 (.l 15) (.l 14), none, none, []⟩]))) (
       .reg [⟨.mv (.v 10), none, none, []⟩,
         ⟨.bin .add false (.l 0) (.c (.int .i64 1)), none, none, []⟩,
         ⟨.mv (.l 1), some 10, none, []⟩]))))))) (
    .reg [⟨.mv (.v 9), none, none, []⟩,
      ⟨.bin .add false (.l 0) (.c (.int .i64 1)), none, none, []⟩,
      ⟨.mv (.l 1), some 9, none, []⟩])))))) (
  .seq (
  .reg [⟨.mv (.v 7), none, none, []⟩,
    ⟨.bin .eql false (.l 0) (.c (.int .i64 0)), none, none, []⟩,
    ⟨.mv (.l 1), none, none, []⟩,
    ⟨.fieldAddr 5 (.v 6), none, some ((.l 2), true), []⟩,
    ⟨.load false 1 (.l 3), none, some ((.l 2), true), []⟩,
    ⟨.pick (.l 2) (.l 4) (.c (.bool false)), none, none, []⟩,
    ⟨.mv (.l 5), none, none, []⟩,
    ⟨.fieldAddr 0 (.v 6), none, some ((.l 6), true), []⟩,
    ⟨.load true 4 (.l 7), none, some ((.l 6), true), []⟩,
    ⟨.load true 4 (.v 8), none, some ((.l 6), true), []⟩,
    ⟨.call 17 [(.l 8), (.l 9)] [(0, 0)] false, none, some ((.l 6), true), []⟩,
    ⟨.pick (.l 6) (.l 10) (.c (.bool false)), none, none, []⟩,
    ⟨.mv (.l 11), none, none, []⟩,
    ⟨.load true 4 (.v 5), none, some ((.l 12), true), []⟩,
    ⟨.load true 7 (.v 6), none, some ((.l 12), true), []⟩,
    ⟨.call 18 [(.l 13), (.l 14)] [(0, 0)] false, none, some ((.l 12), true), []⟩,
    ⟨.load true 4 (.v 5), none, some ((.l 12), true), []⟩,
    ⟨.load true 4 (.v 8), none, some ((.l 12), true), []⟩,
    ⟨.call 17 [(.l 16), (.l 17)] [(0, 0)] false, none, some ((.l 12), true), []⟩,
    ⟨.bin .eql true (.l 15) (.l 18), none, some ((.l 12), true), []⟩,
    ⟨.pick (.l 12) (.l 19) (.c (.bool false)), none, none, []⟩,
    ⟨.mv (.l 20), none, none, []⟩,
    ⟨.mv (.v 4), none, some ((.l 21), true), []⟩,
    ⟨.pick (.l 21) (.l 22) (.c (.bool false)), none, none, []⟩,
    ⟨.mv (.l 23), some 3, none, []⟩]) (
  .ret)))))))⟩

def X8 : XFn :=
 ⟨182, [0, 1, 2, 3, 6, 7, 8, 9, 10, 11, 12, 13, 41, 48, 91, 157], 12, [(4, none)],
  .seq (
  .reg [⟨.box 0 (.v 0), some 3, none, []⟩,
    ⟨.mv (.c (.bool false)), some 4, none, []⟩]) (
  .seq (
  .reg [⟨.call 10 [] [(0, 0)] true, none, none, []⟩,
    ⟨.mv (.l 0), some 5, none, []⟩]) (
  .seq (
  .reg [⟨.load true 1 (.v 3), none, none, []⟩,
    ⟨.call 11 [(.l 0)] [(0, 0), (0, 0), (1, 1), (2, 1)] true, none, none, []⟩,
    ⟨.alloc 3 [(.int .i64 0), (.int .i64 0), .nils, .nils], some 6, none, []⟩,
    ⟨.store 4 (.l 2) (.l 1), none, none, []⟩]) (
  .seq (
  .reg [⟨.load true 4 (.v 6), none, none, [4, 5, 9]⟩,
    ⟨.mv (.v 1), none, none, [9]⟩,
    ⟨.len false (.l 1), none, none, [9]⟩,
    ⟨.conv .u8 (.l 2), none, none, [9]⟩,
    ⟨.call 23 [(.l 3)] [(0, 0)] false, none, none, [9]⟩,
    ⟨.mv (.v 2), none, none, [9]⟩,
    ⟨.call 12 [(.l 5)] [(4, 1)] false, none, none, [9]⟩,
    ⟨.mv (.v 1), none, none, [4, 9]⟩,
    ⟨.call 13 [(.l 7)] [(5, 3)] false, none, none, [9]⟩,
    ⟨.call 14 [(.l 0), (.l 4), (.l 6), (.l 8)] [(0, 0), (0, 0), (6, 1), (7, 1), (0, 0), (0, 0), (8, 1), (0, 0)] false, none, none, [9]⟩,
    ⟨.mv (.l 9), none, none, [9]⟩,
    ⟨.extract (.l 10) 0, none, none, [9]⟩,
    ⟨.extract (.l 10) 1, none, none, [9]⟩,
    ⟨.alloc 9 [(.int .i64 0), (.int .i64 0), .nils, .nils, (.int .i64 0), (.bool false), .nils], some 7, none, [4, 5, 6, 7, 8]⟩,
    ⟨.store 7 (.l 13) (.l 11), none, none, []⟩,
    ⟨.mv (.l 12), some 8, none, []⟩]) (
  .seq (
  .seq (
  .reg [⟨.mv (.v 8), none, none, []⟩,
    ⟨.bin .neq false (.l 0) (.c (.int .i64 0)), none, none, []⟩,
    ⟨.mv (.l 1), none, none, []⟩,
    ⟨.fieldAddr 0 (.v 7), none, some ((.l 2), false), []⟩,
    ⟨.load true 4 (.l 3), none, some ((.l 2), false), []⟩,
    ⟨.fieldAddr 0 (.v 6), none, some ((.l 2), false), []⟩,
    ⟨.load false 1 (.l 5), none, some ((.l 2), false), []⟩,
    ⟨.fieldAddr 1 (.v 6), none, some ((.l 2), false), []⟩,
    ⟨.load false 1 (.l 7), none, some ((.l 2), false), []⟩,
    ⟨.call 25 [(.l 4), (.l 6), (.l 8)] [(0, 0)] true, none, some ((.l 2), false), []⟩,
    ⟨.un .not (.l 9), none, some ((.l 2), false), []⟩,
    ⟨.pick (.l 2) (.c (.bool true)) (.l 10), some 12, none, []⟩]) (
  .cond (.v 12) (
   .seq (
   .reg [⟨.mv (.c (.bool false)), some 4, none, []⟩]) (
   .ret)) (
   .skip))) (
  .seq (
  .reg [⟨.load true 4 (.v 6), none, none, []⟩,
    ⟨.load true 7 (.v 7), none, none, []⟩,
    ⟨.call 21 [(.l 0), (.l 1)] [(10, 2)] true, none, none, []⟩,
    ⟨.mv (.l 2), some 9, none, []⟩]) (
  .seq (
  .seq (
  .reg [⟨.mv (.c (.int .i64 0)), some 10, none, []⟩]) (
  .block 0 (
   .loopS [5, 6, 7, 9, 10] 12 (
    .seq (
    .seq (
    .reg [⟨.mv (.v 10), none, none, []⟩,
      ⟨.mv (.v 9), none, none, []⟩,
      ⟨.len false (.l 1), none, none, []⟩,
      ⟨.bin .lss false (.l 0) (.l 2), some 13, none, []⟩]) (
    .cond (.v 13) (
     .skip) (
     .exit 0))) (
    .seq (
    .block 1 (
     .seq (
     .reg [⟨.mv (.v 9), none, none, []⟩,
       ⟨.mv (.v 10), none, none, []⟩,
       ⟨.indexAddr 2 (.l 0) (.l 1), none, none, []⟩,
       ⟨.load true 2 (.l 2), none, none, []⟩,
       ⟨.alloc 11 [(.int .i64 0), (.int .i64 0)], some 11, none, []⟩,
       ⟨.store 2 (.l 4) (.l 3), none, none, []⟩]) (
     .seq (
     .seq (
     .reg [⟨.fieldAddr 0 (.v 11), none, none, []⟩,
       ⟨.load false 1 (.l 0), none, none, []⟩,
       ⟨.bin .lss false (.l 1) (.c (.int .i64 0)), none, none, []⟩,
       ⟨.mv (.l 2), none, none, []⟩,
       ⟨.fieldAddr 0 (.v 11), none, some ((.l 3), false), []⟩,
       ⟨.load false 1 (.l 4), none, some ((.l 3), false), []⟩,
       ⟨.fieldAddr 0 (.v 6), none, some ((.l 3), false), []⟩,
       ⟨.load false 1 (.l 6), none, some ((.l 3), false), []⟩,
       ⟨.bin .mul false (.c (.int .i64 2)) (.l 7), none, some ((.l 3), false), []⟩,
       ⟨.bin .geq false (.l 5) (.l 8), none, some ((.l 3), false), []⟩,
       ⟨.pick (.l 3) (.c (.bool true)) (.l 9), none, none, []⟩,
       ⟨.mv (.l 10), none, none, []⟩,
       ⟨.fieldAddr 1 (.v 11), none, some ((.l 11), false), []⟩,
       ⟨.load false 1 (.l 12), none, some ((.l 11), false), []⟩,
       ⟨.bin .lss false (.l 13) (.c (.int .i64 0)), none, some ((.l 11), false), []⟩,
       ⟨.pick (.l 11) (.c (.bool true)) (.l 14), none, none, []⟩,
       ⟨.mv (.l 15), none, none, []⟩,
       ⟨.fieldAddr 1 (.v 11), none, some ((.l 16), false), []⟩,
       ⟨.load false 1 (.l 17), none, some ((.l 16), false), []⟩,
       ⟨.fieldAddr 1 (.v 6), none, some ((.l 16), false), []⟩,
       ⟨.load false 1 (.l 19), none, some ((.l 16), false), []⟩,
       ⟨.bin .geq false (.l 18) (.l 20), none, some ((.l 16), false), []⟩,
       ⟨.pick (.l 16) (.c (.bool true)) (.l 21), none, none, []⟩,
       ⟨.mv (.l 22), none, none, []⟩,
       ⟨.mv (.v 10), none, some ((.l 23), false), []⟩,
       ⟨.bin .gtr false (.l 24) (.c (.int .i64 0)), none, some ((.l 23), false), []⟩,
       ⟨.mv (.l 25), none, some ((.l 23), false), []⟩,
       ⟨.mv (.v 9), none, some ((.l 26), true), []⟩,
       ⟨.mv (.v 10), none, some ((.l 26), true), []⟩,
       ⟨.bin .sub false (.l 28) (.c (.int .i64 1)), none, some ((.l 26), true), []⟩,
       ⟨.indexAddr 2 (.l 27) (.l 29), none, some ((.l 26), true), []⟩,
       ⟨.load true 2 (.l 30), none, some ((.l 26), true), []⟩,
       ⟨.load true 2 (.v 11), none, some ((.l 26), true), []⟩,
       ⟨.call 28 [(.l 31), (.l 32)] [(0, 0)] false, none, some ((.l 26), true), []⟩,
       ⟨.un .not (.l 33), none, some ((.l 26), true), []⟩,
       ⟨.pick (.l 26) (.l 34) (.c (.bool false)), none, some ((.l 23), false), []⟩,
       ⟨.pick (.l 23) (.c (.bool true)) (.l 35), some 14, none, []⟩]) (
     .cond (.v 14) (
      .seq (
      .reg [⟨.mv (.c (.bool false)), some 4, none, []⟩]) (
      .ret)) (
      .skip))) (
     .seq (
     .reg [⟨.fieldAddr 0 (.v 11), none, none, []⟩,
       ⟨.load false 1 (.l 0), none, none, []⟩,
       ⟨.fieldAddr 0 (.v 6), none, none, []⟩,
       ⟨.load false 1 (.l 2), none, none, []⟩,
       ⟨.bin .lss false (.l 1) (.l 3), none, none, []⟩,
       ⟨.mv (.l 4), none, none, []⟩,
       ⟨.fieldAddr 2 (.v 6), none, some ((.l 5), true), []⟩,
       ⟨.load false 1 (.l 6), none, some ((.l 5), true), []⟩,
       ⟨.fieldAddr 1 (.v 11), none, some ((.l 5), true), []⟩,
       ⟨.load false 1 (.l 8), none, some ((.l 5), true), []⟩,
       ⟨.indexAddr 1 (.l 7) (.l 9), none, some ((.l 5), true), []⟩,
       ⟨.load false 1 (.l 10), none, some ((.l 5), true), []⟩,
       ⟨.fieldAddr 0 (.v 11), none, some ((.l 5), true), []⟩,
       ⟨.load false 1 (.l 12), none, some ((.l 5), true), []⟩,
       ⟨.indexAddr 1 (.l 11) (.l 13), none, some ((.l 5), true), []⟩,
       ⟨.load false 1 (.l 14), none, some ((.l 5), true), []⟩,
       ⟨.fieldAddr 0 (.v 7), none, some ((.l 5), true), []⟩,
       ⟨.fieldAddr 2 (.l 16), none, some ((.l 5), true), []⟩,
       ⟨.load false 1 (.l 17), none, some ((.l 5), true), []⟩,
       ⟨.fieldAddr 1 (.v 11), none, some ((.l 5), true), []⟩,
       ⟨.load false 1 (.l 19), none, some ((.l 5), true), []⟩,
       ⟨.indexAddr 1 (.l 18) (.l 20), none, some ((.l 5), true), []⟩,
       ⟨.load false 1 (.l 21), none, some ((.l 5), true), []⟩,
       ⟨.fieldAddr 0 (.v 11), none, some ((.l 5), true), []⟩,
       ⟨.load false 1 (.l 23), none, some ((.l 5), true), []⟩,
       ⟨.indexAddr 1 (.l 22) (.l 24), none, some ((.l 5), true), []⟩,
       ⟨.load false 1 (.l 25), none, some ((.l 5), true), []⟩,
       ⟨.bin .eql true (.l 15) (.l 26), none, some ((.l 5), true), []⟩,
       ⟨.pick (.l 5) (.l 27) (.c (.bool false)), none, none, []⟩,
       ⟨.mv (.l 28), none, none, []⟩,
       ⟨.fieldAddr 0 (.v 11), none, some ((.l 29), false), []⟩,
       ⟨.load false 1 (.l 30), none, some ((.l 29), false), []⟩,
       ⟨.fieldAddr 0 (.v 6), none, some ((.l 29), false), []⟩,
       ⟨.load false 1 (.l 32), none, some ((.l 29), false), []⟩,
       ⟨.bin .geq false (.l 31) (.l 33), none, some ((.l 29), false), []⟩,
       ⟨.mv (.l 34), none, some ((.l 29), false), []⟩,
       ⟨.fieldAddr 3 (.v 6), none, some ((.l 35), true), []⟩,
       ⟨.load false 1 (.l 36), none, some ((.l 35), true), []⟩,
       ⟨.fieldAddr 1 (.v 11), none, some ((.l 35), true), []⟩,
       ⟨.load false 1 (.l 38), none, some ((.l 35), true), []⟩,
       ⟨.indexAddr 1 (.l 37) (.l 39), none, some ((.l 35), true), []⟩,
       ⟨.load false 1 (.l 40), none, some ((.l 35), true), []⟩,
       ⟨.fieldAddr 0 (.v 11), none, some ((.l 35), true), []⟩,
       ⟨.load false 1 (.l 42), none, some ((.l 35), true), []⟩,
       ⟨.fieldAddr 0 (.v 6), none, some ((.l 35), true), []⟩,
       ⟨.load false 1 (.l 44), none, some ((.l 35), true), []⟩,
       ⟨.bin .sub false (.l 43) (.l 45), none, some ((.l 35), true), []⟩,
       ⟨.indexAddr 1 (.l 41) (.l 46), none, some ((.l 35), true), []⟩,
       ⟨.load false 1 (.l 47), none, some ((.l 35), true), []⟩,
       ⟨.fieldAddr 0 (.v 7), none, some ((.l 35), true), []⟩,
       ⟨.fieldAddr 3 (.l 49), none, some ((.l 35), true), []⟩,
       ⟨.load false 1 (.l 50), none, some ((.l 35), true), []⟩,
       ⟨.fieldAddr 1 (.v 11), none, some ((.l 35), true), []⟩,
       ⟨.load false 1 (.l 52), none, some ((.l 35), true), []⟩,
       ⟨.indexAddr 1 (.l 51) (.l 53), none, some ((.l 35), true), []⟩,
       ⟨.load false 1 (.l 54), none, some ((.l 35), true), []⟩,
       ⟨.fieldAddr 0 (.v 11), none, some ((.l 35), true), []⟩,
       ⟨.load false 1 (.l 56), none, some ((.l 35), true), []⟩,
       ⟨.fieldAddr 0 (.v 6), none, some ((.l 35), true), []⟩,
       ⟨.load false 1 (.l 58), none, some ((.l 35), true), []⟩,
       ⟨.bin .sub false (.l 57) (.l 59), none, some ((.l 35), true), []⟩,
       ⟨.indexAddr 1 (.l 55) (.l 60), none, some ((.l 35), true), []⟩,
       ⟨.load false 1 (.l 61), none, some ((.l 35), true), []⟩,
       ⟨.bin .eql true (.l 48) (.l 62), none, some ((.l 35), true), []⟩,
       ⟨.pick (.l 35) (.l 63) (.c (.bool false)), none, some ((.l 29), false), []⟩,
       ⟨.pick (.l 29) (.c (.bool true)) (.l 64), some 15, none, []⟩]) (
     .cond (.v 15) (
      .seq (
      .reg [⟨.mv (.c (.bool false)), some 4, none, []⟩]) (
      .ret)) (
      .skip)))))) (
    .reg [⟨.mv (.v 10), none, none, []⟩,
      ⟨.bin .add false (.l 0) (.c (.int .i64 1)), none, none, []⟩,
      ⟨.mv (.l 1), some 10, none, []⟩])))))) (
  .seq (
  .reg [⟨.load true 4 (.v 6), none, none, []⟩,
    ⟨.load true 7 (.v 7), none, none, []⟩,
    ⟨.call 18 [(.l 0), (.l 1)] [(0, 0)] false, none, none, []⟩,
    ⟨.fieldAddr 5 (.v 7), none, none, []⟩,
    ⟨.load false 1 (.l 3), none, none, []⟩,
    ⟨.mv (.l 4), none, none, []⟩,
    ⟨.mv (.v 9), none, some ((.l 5), true), []⟩,
    ⟨.len false (.l 6), none, some ((.l 5), true), []⟩,
    ⟨.bin .eql false (.l 7) (.c (.int .i64 0)), none, some ((.l 5), true), []⟩,
    ⟨.pick (.l 5) (.l 8) (.c (.bool false)), none, none, []⟩,
    ⟨.bin .eql true (.l 2) (.l 9), none, none, []⟩,
    ⟨.mv (.l 10), none, none, []⟩,
    ⟨.mv (.v 9), none, some ((.l 11), true), []⟩,
    ⟨.len false (.l 12), none, some ((.l 11), true), []⟩,
    ⟨.bin .eql false (.l 13) (.c (.int .i64 0)), none, some ((.l 11), true), []⟩,
    ⟨.load true 4 (.v 6), none, some ((.l 11), true), []⟩,
    ⟨.fieldAddr 0 (.v 7), none, some ((.l 11), true), []⟩,
    ⟨.load true 4 (.l 16), none, some ((.l 11), true), []⟩,
    ⟨.call 17 [(.l 15), (.l 17)] [(0, 0)] false, none, some ((.l 11), true), []⟩,
    ⟨.bin .eql true (.l 14) (.l 18), none, some ((.l 11), true), []⟩,
    ⟨.pick (.l 11) (.l 19) (.c (.bool false)), none, none, []⟩,
    ⟨.mv (.l 20), none, none, []⟩,
    ⟨.mv (.v 5), none, some ((.l 21), true), []⟩,
    ⟨.pick (.l 21) (.l 22) (.c (.bool false)), none, none, []⟩,
    ⟨.mv (.l 23), some 4, none, []⟩]) (
  .ret))))))))⟩

def X9 : XFn :=
 ⟨138, [0, 1, 2, 3, 5, 6, 7, 8, 9, 10, 11, 12, 13, 14, 15, 16, 17, 25, 59, 110], 16, [(5, none)],
  .seq (
  .reg [⟨.box 0 (.v 0), some 3, none, []⟩,
    ⟨.boxA 1 (.v 2), some 4, none, []⟩,
    ⟨.mv (.c (.bool false)), some 5, none, []⟩]) (
  .seq (
  .reg [⟨.call 10 [] [(0, 0)] true, none, none, []⟩,
    ⟨.mv (.l 0), some 6, none, []⟩]) (
  .seq (
  .reg [⟨.load true 1 (.v 3), none, none, []⟩,
    ⟨.call 11 [(.l 0)] [(0, 0), (0, 0), (2, 1), (3, 1)] true, none, none, []⟩,
    ⟨.mv (.v 1), none, none, []⟩,
    ⟨.call 13 [(.l 2)] [(4, 3)] true, none, none, []⟩,
    ⟨.alloc 5 [(.int .i64 0), (.int .i64 0), .nils, .nils], some 7, none, []⟩,
    ⟨.store 4 (.l 4) (.l 1), none, none, []⟩,
    ⟨.mv (.l 3), some 8, none, []⟩]) (
  .seq (
  .seq (
  .reg [⟨.mv (.v 8), none, none, []⟩,
    ⟨.len false (.l 0), none, none, []⟩,
    ⟨.bin .lss false (.l 1) (.c (.int .i64 2)), some 17, none, []⟩]) (
  .cond (.v 17) (
   .seq (
   .reg [⟨.mv (.v 6), none, none, []⟩,
     ⟨.mv (.l 0), some 5, none, []⟩]) (
   .ret)) (
   .skip))) (
  .seq (
  .reg [⟨.indexAddrA 2 1 (.v 4) (.c (.int .i64 0)), none, none, []⟩,
    ⟨.load false 1 (.l 0), none, none, []⟩,
    ⟨.conv .i64 (.l 1), none, none, []⟩,
    ⟨.mv (.v 8), none, none, []⟩,
    ⟨.len false (.l 3), none, none, []⟩,
    ⟨.bin .rem false (.l 2) (.l 4), none, none, []⟩,
    ⟨.indexAddrA 2 1 (.v 4) (.c (.int .i64 1)), none, none, []⟩,
    ⟨.load false 1 (.l 6), none, none, []⟩,
    ⟨.conv .i64 (.l 7), none, none, []⟩,
    ⟨.mv (.v 8), none, none, []⟩,
    ⟨.len false (.l 9), none, none, []⟩,
    ⟨.bin .rem false (.l 8) (.l 10), none, none, []⟩,
    ⟨.mv (.l 5), some 9, none, []⟩,
    ⟨.mv (.l 11), some 10, none, []⟩]) (
  .seq (
  .reg [⟨.mkarr 6 3 [] [], none, none, []⟩,
    ⟨.mv (.v 8), none, none, []⟩,
    ⟨.append 6 3 24 2 (.l 0) (.l 1), none, none, []⟩,
    ⟨.mv (.l 2), some 11, none, []⟩]) (
  .seq (
  .reg [⟨.mv (.v 11), none, none, []⟩,
    ⟨.mv (.v 9), none, none, []⟩,
    ⟨.mv (.v 11), none, none, []⟩,
    ⟨.mv (.v 10), none, none, []⟩,
    ⟨.mv (.v 11), none, none, []⟩,
    ⟨.mv (.v 10), none, none, []⟩,
    ⟨.indexAddr 3 (.l 4) (.l 5), none, none, []⟩,
    ⟨.load true 3 (.l 6), none, none, []⟩,
    ⟨.mv (.v 11), none, none, []⟩,
    ⟨.mv (.v 9), none, none, []⟩,
    ⟨.indexAddr 3 (.l 8) (.l 9), none, none, []⟩,
    ⟨.load true 3 (.l 10), none, none, []⟩,
    ⟨.indexAddr 3 (.l 0) (.l 1), none, none, []⟩,
    ⟨.store 3 (.l 12) (.l 7), none, none, []⟩,
    ⟨.indexAddr 3 (.l 2) (.l 3), none, none, []⟩,
    ⟨.store 3 (.l 14) (.l 11), none, none, []⟩]) (
  .seq (
  .seq (
  .reg [⟨.mv (.c (.int .i64 0)), some 12, none, []⟩]) (
  .block 0 (
   .loopS [6, 7, 8, 9, 10, 11, 12] 16 (
    .seq (
    .seq (
    .reg [⟨.mv (.v 12), none, none, []⟩,
      ⟨.mv (.v 8), none, none, []⟩,
      ⟨.len false (.l 1), none, none, []⟩,
      ⟨.bin .lss false (.l 0) (.l 2), some 18, none, []⟩]) (
    .cond (.v 18) (
     .skip) (
     .exit 0))) (
    .seq (
    .block 1 (
     .seq (
     .reg [⟨.mv (.v 12), none, none, []⟩,
       ⟨.mv (.v 9), none, none, []⟩,
       ⟨.mv (.v 10), none, none, []⟩,
       ⟨.minmax false [(.l 1), (.l 2)], none, none, []⟩,
       ⟨.bin .gtr false (.l 0) (.l 3), none, none, []⟩,
       ⟨.mv (.l 4), none, none, []⟩,
       ⟨.mv (.v 12), none, some ((.l 5), true), []⟩,
       ⟨.mv (.v 9), none, some ((.l 5), true), []⟩,
       ⟨.mv (.v 10), none, some ((.l 5), true), []⟩,
       ⟨.minmax true [(.l 7), (.l 8)], none, some ((.l 5), true), []⟩,
       ⟨.bin .leq false (.l 6) (.l 9), none, some ((.l 5), true), []⟩,
       ⟨.pick (.l 5) (.l 10) (.c (.bool false)), none, none, []⟩,
       ⟨.mv (.l 11), none, none, []⟩,
       ⟨.mv (.v 8), none, some ((.l 12), true), []⟩,
       ⟨.mv (.v 12), none, some ((.l 12), true), []⟩,
       ⟨.indexAddr 3 (.l 13) (.l 14), none, some ((.l 12), true), []⟩,
       ⟨.fieldAddr 1 (.l 15), none, some ((.l 12), true), []⟩,
       ⟨.load false 1 (.l 16), none, some ((.l 12), true), []⟩,
       ⟨.mv (.v 8), none, some ((.l 12), true), []⟩,
       ⟨.mv (.v 9), none, some ((.l 12), true), []⟩,
       ⟨.mv (.v 10), none, some ((.l 12), true), []⟩,
       ⟨.minmax false [(.l 19), (.l 20)], none, some ((.l 12), true), []⟩,
       ⟨.indexAddr 3 (.l 18) (.l 21), none, some ((.l 12), true), []⟩,
       ⟨.fieldAddr 1 (.l 22), none, some ((.l 12), true), []⟩,
       ⟨.load false 1 (.l 23), none, some ((.l 12), true), []⟩,
       ⟨.bin .eql false (.l 17) (.l 24), none, some ((.l 12), true), []⟩,
       ⟨.mv (.l 25), none, some ((.l 12), true), []⟩,
       ⟨.mv (.v 12), none, some ((.l 26), false), []⟩,
       ⟨.mv (.v 9), none, some ((.l 26), false), []⟩,
       ⟨.mv (.v 10), none, some ((.l 26), false), []⟩,
       ⟨.minmax true [(.l 28), (.l 29)], none, some ((.l 26), false), []⟩,
       ⟨.bin .lss false (.l 27) (.l 30), none, some ((.l 26), false), []⟩,
       ⟨.mv (.l 31), none, some ((.l 26), false), []⟩,
       ⟨.mv (.v 8), none, some ((.l 32), true), []⟩,
       ⟨.mv (.v 12), none, some ((.l 32), true), []⟩,
       ⟨.indexAddr 3 (.l 33) (.l 34), none, some ((.l 32), true), []⟩,
       ⟨.fieldAddr 1 (.l 35), none, some ((.l 32), true), []⟩,
       ⟨.load false 1 (.l 36), none, some ((.l 32), true), []⟩,
       ⟨.mv (.v 8), none, some ((.l 32), true), []⟩,
       ⟨.mv (.v 9), none, some ((.l 32), true), []⟩,
       ⟨.mv (.v 10), none, some ((.l 32), true), []⟩,
       ⟨.minmax true [(.l 39), (.l 40)], none, some ((.l 32), true), []⟩,
       ⟨.indexAddr 3 (.l 38) (.l 41), none, some ((.l 32), true), []⟩,
       ⟨.fieldAddr 1 (.l 42), none, some ((.l 32), true), []⟩,
       ⟨.load false 1 (.l 43), none, some ((.l 32), true), []⟩,
       ⟨.bin .eql false (.l 37) (.l 44), none, some ((.l 32), true), []⟩,
       ⟨.pick (.l 32) (.l 45) (.c (.bool false)), none, some ((.l 26), false), []⟩,
       ⟨.pick (.l 26) (.c (.bool true)) (.l 46), none, some ((.l 12), true), []⟩,
       ⟨.pick (.l 12) (.l 47) (.c (.bool false)), some 19, none, []⟩]) (
     .cond (.v 19) (
      .seq (
      .reg [⟨.mv (.v 6), none, none, []⟩,
        ⟨.mv (.l 0), some 5, none, []⟩]) (
      .ret)) (
      .skip)))) (
    .reg [⟨.mv (.v 12), none, none, []⟩,
      ⟨.bin .add false (.l 0) (.c (.int .i64 1)), none, none, []⟩,
      ⟨.mv (.l 1), some 12, none, []⟩])))))) (
  .seq (
  .reg [⟨.load true 4 (.v 7), none, none, []⟩,
    ⟨.mv (.v 8), none, none, []⟩,
    ⟨.call 14 [(.l 0), (.c (.int .i64 3)), (.c .nils), (.l 1)] [(0, 0), (0, 0), (8, 1), (9, 1), (0, 0), (0, 0), (10, 1), (0, 0)] true, none, none, []⟩,
    ⟨.mv (.l 2), none, none, []⟩,
    ⟨.extract (.l 3) 0, none, none, []⟩,
    ⟨.extract (.l 3) 1, none, none, []⟩,
    ⟨.alloc 11 [(.int .i64 0), (.int .i64 0), .nils, .nils, (.int .i64 0), (.bool false), .nils], some 13, none, []⟩,
    ⟨.store 7 (.l 6) (.l 4), none, none, []⟩,
    ⟨.mv (.l 5), some 14, none, []⟩]) (
  .seq (
  .reg [⟨.load true 4 (.v 7), none, none, []⟩,
    ⟨.mv (.v 11), none, none, []⟩,
    ⟨.call 14 [(.l 0), (.c (.int .i64 3)), (.c .nils), (.l 1)] [(0, 0), (0, 0), (12, 1), (13, 1), (0, 0), (0, 0), (14, 1), (0, 0)] true, none, none, []⟩,
    ⟨.mv (.l 2), none, none, []⟩,
    ⟨.extract (.l 3) 0, none, none, []⟩,
    ⟨.extract (.l 3) 1, none, none, []⟩,
    ⟨.alloc 15 [(.int .i64 0), (.int .i64 0), .nils, .nils, (.int .i64 0), (.bool false), .nils], some 15, none, []⟩,
    ⟨.store 7 (.l 6) (.l 4), none, none, []⟩,
    ⟨.mv (.l 5), some 16, none, []⟩]) (
  .seq (
  .reg [⟨.mv (.v 14), none, none, []⟩,
    ⟨.bin .eql false (.l 0) (.c (.int .i64 0)), none, none, []⟩,
    ⟨.mv (.l 1), none, none, []⟩,
    ⟨.mv (.v 16), none, some ((.l 2), true), []⟩,
    ⟨.bin .eql false (.l 3) (.c (.int .i64 0)), none, some ((.l 2), true), []⟩,
    ⟨.pick (.l 2) (.l 4) (.c (.bool false)), none, none, []⟩,
    ⟨.mv (.l 5), none, none, []⟩,
    ⟨.load true 7 (.v 13), none, some ((.l 6), true), []⟩,
    ⟨.load true 7 (.v 15), none, some ((.l 6), true), []⟩,
    ⟨.call 16 [(.l 7), (.l 8)] [(0, 0)] true, none, some ((.l 6), true), []⟩,
    ⟨.pick (.l 6) (.l 9) (.c (.bool false)), none, none, []⟩,
    ⟨.mv (.l 10), none, none, []⟩,
    ⟨.mv (.v 6), none, some ((.l 11), true), []⟩,
    ⟨.pick (.l 11) (.l 12) (.c (.bool false)), none, none, []⟩,
    ⟨.mv (.l 13), some 5, none, []⟩]) (
  .ret)))))))))))⟩

theorem c3 : compFn Try.prog 3 = some { X3 with body := strip X3.body } := by kernel_rfl
theorem c4 : compFn Try.prog 4 = some { X4 with body := strip X4.body } := by kernel_rfl
theorem c5 : compFn Try.prog 5 = some { X5 with body := strip X5.body } := by kernel_rfl
theorem c6 : compFn Try.prog 6 = some { X6 with body := strip X6.body } := by kernel_rfl
theorem c7 : compFn Try.prog 7 = some { X7 with body := strip X7.body } := by kernel_rfl
theorem c8 : compFn Try.prog 8 = some { X8 with body := strip X8.body } := by kernel_rfl
theorem c9 : compFn Try.prog 9 = some { X9 with body := strip X9.body } := by kernel_rfl
end Go.Proofs.Ytgdcogoacnghkaa.N
