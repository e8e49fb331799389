/-
  Chapter 26: the laws, as the machine takes them (printed).
-/
import Derived.Test.YtalgbgeocpbadaaProg
import Derived.KernelRfl
import Derived.Test.YtalgbgeocpbadaaMg4
namespace Go.Proofs.Ytalgbgeocpbadaa.K
set_option linter.unusedSimpArgs false
set_option linter.unusedVariables false
set_option linter.unusedSectionVars false
open Go.Proofs.Ytalgbgeocpbadaa.Am
def X3 : XFn :=
 ⟨93, [0, 1, 2, 3, 6, 7, 8, 9, 10, 11, 12, 13, 14, 15, 16, 17], 9, [(4, none)],
  .seq (
  .reg [⟨.box 0 (.v 0), some 3, none, []⟩,
    ⟨.mv (.c (.bool false)), some 4, none, []⟩]) (
  .seq (
  .reg [⟨.call 8 [] [(0, 0)] true, none, none, []⟩,
    ⟨.mv (.l 0), some 5, none, []⟩]) (
  .seq (
  .reg [⟨.load true 3 (.v 3), none, none, []⟩,
    ⟨.call 9 [(.l 0)] [(0, 0), (0, 0), (1, 1), (2, 1)] true, none, none, []⟩,
    ⟨.alloc 3 [(.int .i64 0), (.int .i64 0), .nils, .nils], some 6, none, []⟩,
    ⟨.store 4 (.l 2) (.l 1), none, none, []⟩]) (
  .frz [(1, true), (2, true), (3, true)] (
  .seq (
  .reg [⟨.load true 4 (.v 6), none, none, []⟩,
    ⟨.mv (.v 1), none, none, []⟩,
    ⟨.conv .i64 (.l 1), none, none, []⟩,
    ⟨.call 10 [(.l 0), (.l 2)] [(4, 3), (0, 0)] true, none, none, []⟩,
    ⟨.mv (.l 3), none, none, []⟩,
    ⟨.extract (.l 4) 0, none, none, []⟩,
    ⟨.extract (.l 4) 1, none, none, []⟩,
    ⟨.mv (.l 5), some 7, none, []⟩,
    ⟨.mv (.l 6), some 8, none, []⟩]) (
  .seq (
  .reg [⟨.load true 4 (.v 6), none, none, []⟩,
    ⟨.mv (.v 1), none, none, []⟩,
    ⟨.conv .i64 (.l 1), none, none, []⟩,
    ⟨.call 11 [(.l 0), (.l 2)] [(5, 3), (0, 0)] true, none, none, []⟩,
    ⟨.mv (.l 3), none, none, []⟩,
    ⟨.extract (.l 4) 0, none, none, []⟩,
    ⟨.extract (.l 4) 1, none, none, []⟩,
    ⟨.mv (.l 5), some 9, none, []⟩,
    ⟨.mv (.l 6), some 10, none, []⟩]) (
  .seq (
  .reg [⟨.load true 4 (.v 6), none, none, []⟩,
    ⟨.alloc 6 [(.int .i64 0), (.int .i64 0), .nils, .nils], some 11, none, []⟩,
    ⟨.store 4 (.l 1) (.l 0), none, none, []⟩]) (
  .seq (
  .reg [⟨.fieldAddr 0 (.v 11), none, none, []⟩,
    ⟨.load false 1 (.l 0), none, none, []⟩,
    ⟨.mv (.v 2), none, none, []⟩,
    ⟨.bin .rem false (.l 2) (.c (.int .u8 3)), none, none, []⟩,
    ⟨.conv .i64 (.l 3), none, none, []⟩,
    ⟨.bin .add false (.l 1) (.l 4), none, none, []⟩,
    ⟨.fieldAddr 0 (.v 11), none, none, []⟩,
    ⟨.store 1 (.l 6) (.l 5), none, none, []⟩]) (
  .seq (
  .reg [⟨.fieldAddr 1 (.v 11), none, none, []⟩,
    ⟨.load false 1 (.l 0), none, none, []⟩,
    ⟨.mv (.v 2), none, none, []⟩,
    ⟨.bin .quo false (.l 2) (.c (.int .u8 3)), none, none, []⟩,
    ⟨.bin .rem false (.l 3) (.c (.int .u8 2)), none, none, []⟩,
    ⟨.conv .i64 (.l 4), none, none, []⟩,
    ⟨.bin .add false (.l 1) (.l 5), none, none, []⟩,
    ⟨.fieldAddr 1 (.v 11), none, none, []⟩,
    ⟨.store 1 (.l 7) (.l 6), none, none, []⟩]) (
  .seq (
  .reg [⟨.load true 4 (.v 11), none, none, []⟩,
    ⟨.mv (.v 1), none, none, []⟩,
    ⟨.conv .i64 (.l 1), none, none, []⟩,
    ⟨.call 10 [(.l 0), (.l 2)] [(7, 3), (0, 0)] true, none, none, []⟩,
    ⟨.mv (.l 3), none, none, []⟩,
    ⟨.extract (.l 4) 0, none, none, []⟩,
    ⟨.extract (.l 4) 1, none, none, []⟩,
    ⟨.mv (.l 5), some 12, none, []⟩,
    ⟨.mv (.l 6), some 13, none, []⟩]) (
  .seq (
  .reg [⟨.load true 4 (.v 11), none, none, []⟩,
    ⟨.mv (.v 1), none, none, []⟩,
    ⟨.conv .i64 (.l 1), none, none, []⟩,
    ⟨.call 11 [(.l 0), (.l 2)] [(8, 3), (0, 0)] true, none, none, []⟩,
    ⟨.mv (.l 3), none, none, []⟩,
    ⟨.extract (.l 4) 0, none, none, []⟩,
    ⟨.extract (.l 4) 1, none, none, []⟩,
    ⟨.mv (.l 5), some 14, none, []⟩,
    ⟨.mv (.l 6), some 15, none, []⟩]) (
  .seq (
  .reg [⟨.mv (.v 7), none, none, []⟩,
    ⟨.mv (.v 9), none, none, []⟩,
    ⟨.call 12 [(.l 0), (.l 1)] [(0, 0)] false, none, none, []⟩,
    ⟨.mv (.l 2), none, none, []⟩,
    ⟨.mv (.v 8), none, some ((.l 3), true), []⟩,
    ⟨.mv (.v 10), none, some ((.l 3), true), []⟩,
    ⟨.bin .eql false (.l 4) (.l 5), none, some ((.l 3), true), []⟩,
    ⟨.pick (.l 3) (.l 6) (.c (.bool false)), none, none, []⟩,
    ⟨.mv (.l 7), none, none, []⟩,
    ⟨.mv (.v 12), none, some ((.l 8), true), []⟩,
    ⟨.mv (.v 14), none, some ((.l 8), true), []⟩,
    ⟨.call 12 [(.l 9), (.l 10)] [(0, 0)] false, none, some ((.l 8), true), []⟩,
    ⟨.pick (.l 8) (.l 11) (.c (.bool false)), none, none, []⟩,
    ⟨.mv (.l 12), none, none, []⟩,
    ⟨.mv (.v 13), none, some ((.l 13), true), []⟩,
    ⟨.mv (.v 15), none, some ((.l 13), true), []⟩,
    ⟨.bin .eql false (.l 14) (.l 15), none, some ((.l 13), true), []⟩,
    ⟨.pick (.l 13) (.l 16) (.c (.bool false)), none, none, []⟩,
    ⟨.mv (.l 17), none, none, []⟩,
    ⟨.load true 4 (.v 6), none, some ((.l 18), true), []⟩,
    ⟨.call 13 [(.l 19)] [(0, 0)] false, none, some ((.l 18), true), []⟩,
    ⟨.load true 4 (.v 6), none, some ((.l 18), true), []⟩,
    ⟨.call 14 [(.l 21)] [(0, 0)] false, none, some ((.l 18), true), []⟩,
    ⟨.bin .eql false (.l 20) (.l 22), none, some ((.l 18), true), []⟩,
    ⟨.pick (.l 18) (.l 23) (.c (.bool false)), none, none, []⟩,
    ⟨.mv (.l 24), none, none, []⟩,
    ⟨.mv (.v 5), none, some ((.l 25), true), []⟩,
    ⟨.pick (.l 25) (.l 26) (.c (.bool false)), none, none, []⟩,
    ⟨.mv (.l 27), some 4, none, []⟩]) (
  .ret))))))))))))⟩

def X4 : XFn :=
 ⟨39, [0, 1, 2, 4, 5, 6, 7, 8], 7, [(3, none)],
  .seq (
  .reg [⟨.box 0 (.v 0), some 2, none, []⟩,
    ⟨.mv (.c (.bool false)), some 3, none, []⟩]) (
  .seq (
  .reg [⟨.call 8 [] [(0, 0)] true, none, none, []⟩,
    ⟨.mv (.l 0), some 4, none, []⟩]) (
  .seq (
  .reg [⟨.load true 3 (.v 2), none, none, []⟩,
    ⟨.call 9 [(.l 0)] [(0, 0), (0, 0), (1, 1), (2, 1)] true, none, none, []⟩,
    ⟨.alloc 3 [(.int .i64 0), (.int .i64 0), .nils, .nils], some 5, none, []⟩,
    ⟨.store 4 (.l 2) (.l 1), none, none, []⟩]) (
  .frz [(1, true), (2, true), (3, true)] (
  .seq (
  .reg [⟨.load true 4 (.v 5), none, none, []⟩,
    ⟨.mv (.v 1), none, none, []⟩,
    ⟨.bin .rem false (.l 1) (.c (.int .u8 64)), none, none, []⟩,
    ⟨.conv .i64 (.l 2), none, none, []⟩,
    ⟨.bin .add false (.c (.int .i64 1)) (.l 3), none, none, []⟩,
    ⟨.call 10 [(.l 0), (.l 4)] [(4, 3), (0, 0)] true, none, none, []⟩,
    ⟨.mv (.l 5), none, none, []⟩,
    ⟨.extract (.l 6) 0, none, none, []⟩,
    ⟨.extract (.l 6) 1, none, none, []⟩,
    ⟨.mv (.l 7), some 6, none, []⟩,
    ⟨.mv (.l 8), some 7, none, []⟩]) (
  .seq (
  .reg [⟨.mv (.v 7), none, none, []⟩,
    ⟨.bin .eql false (.l 0) (.c (.int .i64 0)), none, none, []⟩,
    ⟨.mv (.l 1), none, none, []⟩,
    ⟨.fieldAddr 0 (.v 5), none, some ((.l 2), true), []⟩,
    ⟨.load false 1 (.l 3), none, some ((.l 2), true), []⟩,
    ⟨.fieldAddr 1 (.v 5), none, some ((.l 2), true), []⟩,
    ⟨.load false 1 (.l 5), none, some ((.l 2), true), []⟩,
    ⟨.mv (.v 6), none, some ((.l 2), true), []⟩,
    ⟨.call 16 [(.l 4), (.l 6), (.l 7)] [(0, 0), (0, 0), (5, 1), (6, 1), (0, 0), (0, 0)] false, none, some ((.l 2), true), []⟩,
    ⟨.load true 4 (.v 5), none, some ((.l 2), true), [5, 6]⟩,
    ⟨.mv (.v 6), none, some ((.l 2), true), [5, 6]⟩,
    ⟨.len false (.l 10), none, some ((.l 2), true), [5, 6]⟩,
    ⟨.build [(.int .i64 0), (.int .i64 0), .nils, .nils, (.int .i64 0), (.int .i64 0)] [(0, 4, (.l 9)), (4, 1, (.l 11))], none, some ((.l 2), true), [5, 6]⟩,
    ⟨.call 15 [(.l 8), (.l 12)] [(0, 0)] false, none, some ((.l 2), true), []⟩,
    ⟨.pick (.l 2) (.l 13) (.c (.bool false)), none, none, []⟩,
    ⟨.mv (.l 14), none, none, []⟩,
    ⟨.mv (.v 4), none, some ((.l 15), true), []⟩,
    ⟨.pick (.l 15) (.l 16) (.c (.bool false)), none, none, []⟩,
    ⟨.mv (.l 17), some 3, none, []⟩]) (
  .ret))))))⟩

def X6 : XFn :=
 ⟨59, [0, 1, 2, 4, 5, 6, 7, 8, 9, 38], 15, [(5, none)],
  .seq (
  .reg [⟨.box 0 (.v 1), some 3, none, []⟩,
    ⟨.box 1 (.v 2), some 4, none, []⟩,
    ⟨.mv (.c (.bool false)), some 5, none, []⟩]) (
  .seq (
  .reg [⟨.call 8 [] [(0, 0)] true, none, none, []⟩,
    ⟨.mv (.l 0), some 6, none, []⟩]) (
  .seq (
  .reg [⟨.fieldAddr 0 (.v 3), none, none, []⟩,
    ⟨.load false 1 (.l 0), none, none, []⟩,
    ⟨.fieldAddr 1 (.v 3), none, none, []⟩,
    ⟨.load false 1 (.l 2), none, none, []⟩,
    ⟨.build [(.int .u8 0), (.int .u8 0), .nils] [(0, 1, (.l 1)), (1, 1, (.l 3))], none, none, []⟩,
    ⟨.call 9 [(.l 4)] [(0, 0), (0, 0), (2, 1), (3, 1)] true, none, none, []⟩,
    ⟨.alloc 4 [(.int .i64 0), (.int .i64 0), .nils, .nils], some 7, none, []⟩,
    ⟨.store 4 (.l 6) (.l 5), none, none, []⟩]) (
  .seq (
  .reg [⟨.mv (.v 0), none, none, []⟩,
    ⟨.fieldAddr 0 (.v 7), none, none, []⟩,
    ⟨.load false 1 (.l 1), none, none, []⟩,
    ⟨.fieldAddr 1 (.v 7), none, none, []⟩,
    ⟨.load false 1 (.l 3), none, none, []⟩,
    ⟨.call 19 [(.l 0), (.l 2), (.l 4)] [(5, 3)] false, none, none, []⟩,
    ⟨.load true 5 (.v 3), none, none, [5]⟩,
    ⟨.call 18 [(.l 5), (.l 6)] [(6, 3)] false, none, none, []⟩,
    ⟨.mv (.l 7), some 8, none, []⟩]) (
  .seq (
  .seq (
  .reg [⟨.fieldAddr 0 (.v 7), none, none, []⟩,
    ⟨.load false 1 (.l 0), none, none, []⟩,
    ⟨.fieldAddr 1 (.v 7), none, none, []⟩,
    ⟨.load false 1 (.l 2), none, none, []⟩,
    ⟨.mv (.v 8), none, none, []⟩,
    ⟨.call 16 [(.l 1), (.l 3), (.l 4)] [(0, 0), (0, 0), (7, 1), (8, 1), (0, 0), (0, 0)] false, none, none, []⟩,
    ⟨.fieldAddr 0 (.v 7), none, none, [7, 8]⟩,
    ⟨.load false 1 (.l 6), none, none, [7, 8]⟩,
    ⟨.fieldAddr 1 (.v 7), none, none, [7, 8]⟩,
    ⟨.load false 1 (.l 8), none, none, [7, 8]⟩,
    ⟨.mv (.v 8), none, none, [7, 8]⟩,
    ⟨.call 20 [(.l 7), (.l 9), (.l 10)] [(0, 0), (0, 0), (9, 1), (10, 1), (0, 0), (0, 0)] false, none, none, []⟩,
    ⟨.call 15 [(.l 5), (.l 11)] [(0, 0)] false, none, none, []⟩,
    ⟨.un .not (.l 12), some 9, none, []⟩]) (
  .cond (.v 9) (
   .seq (
   .reg [⟨.mv (.c (.bool false)), some 5, none, []⟩]) (
   .ret)) (
   .skip))) (
  .seq (
  .reg [⟨.indexAddrA 2 1 (.v 4) (.c (.int .i64 0)), none, none, []⟩,
    ⟨.load false 1 (.l 0), none, none, []⟩,
    ⟨.conv .i64 (.l 1), none, none, []⟩,
    ⟨.indexAddrA 2 1 (.v 4) (.c (.int .i64 1)), none, none, []⟩,
    ⟨.load false 1 (.l 3), none, none, []⟩,
    ⟨.conv .i64 (.l 4), none, none, []⟩,
    ⟨.mv (.v 8), none, none, []⟩,
    ⟨.call 16 [(.l 2), (.l 5), (.l 6)] [(0, 0), (0, 0), (11, 1), (12, 1), (0, 0), (0, 0)] false, none, none, []⟩,
    ⟨.indexAddrA 2 1 (.v 4) (.c (.int .i64 0)), none, none, [11, 12]⟩,
    ⟨.load false 1 (.l 8), none, none, [11, 12]⟩,
    ⟨.conv .i64 (.l 9), none, none, [11, 12]⟩,
    ⟨.indexAddrA 2 1 (.v 4) (.c (.int .i64 1)), none, none, [11, 12]⟩,
    ⟨.load false 1 (.l 11), none, none, [11, 12]⟩,
    ⟨.conv .i64 (.l 12), none, none, [11, 12]⟩,
    ⟨.mv (.v 8), none, none, [11, 12]⟩,
    ⟨.call 20 [(.l 10), (.l 13), (.l 14)] [(0, 0), (0, 0), (13, 1), (14, 1), (0, 0), (0, 0)] false, none, none, []⟩,
    ⟨.call 15 [(.l 7), (.l 15)] [(0, 0)] false, none, none, []⟩,
    ⟨.mv (.l 16), none, none, []⟩,
    ⟨.mv (.v 6), none, some ((.l 17), true), []⟩,
    ⟨.pick (.l 17) (.l 18) (.c (.bool false)), none, none, []⟩,
    ⟨.mv (.l 19), some 5, none, []⟩]) (
  .ret))))))⟩

def X5 : XFn :=
 ⟨175, [0, 1, 2, 4, 5, 6, 7, 8, 9, 10, 11, 12, 13, 14, 15, 16, 31, 35, 41, 51, 61, 75, 109, 158], 5, [(3, none)],
  .seq (
  .reg [⟨.box 0 (.v 0), some 2, none, []⟩,
    ⟨.mv (.c (.bool false)), some 3, none, []⟩]) (
  .seq (
  .reg [⟨.call 8 [] [(0, 0)] true, none, none, []⟩,
    ⟨.mv (.l 0), some 4, none, []⟩]) (
  .seq (
  .reg [⟨.load true 3 (.v 2), none, none, []⟩,
    ⟨.call 9 [(.l 0)] [(0, 0), (0, 0), (1, 1), (2, 1)] true, none, none, []⟩,
    ⟨.mv (.v 1), none, none, []⟩,
    ⟨.bin .rem false (.l 2) (.c (.int .u8 64)), none, none, []⟩,
    ⟨.conv .i64 (.l 3), none, none, []⟩,
    ⟨.bin .add false (.c (.int .i64 1)) (.l 4), none, none, []⟩,
    ⟨.alloc 3 [(.int .i64 0), (.int .i64 0), .nils, .nils], some 5, none, []⟩,
    ⟨.store 4 (.l 6) (.l 1), none, none, []⟩,
    ⟨.mv (.l 5), some 6, none, []⟩]) (
  .frz [(1, true), (2, true), (3, true)] (
  .seq (
  .reg [⟨.load true 4 (.v 5), none, none, []⟩,
    ⟨.mv (.v 6), none, none, []⟩,
    ⟨.call 10 [(.l 0), (.l 1)] [(4, 3), (0, 0)] true, none, none, []⟩,
    ⟨.mv (.l 2), none, none, []⟩,
    ⟨.extract (.l 3) 0, none, none, []⟩,
    ⟨.extract (.l 3) 1, none, none, []⟩,
    ⟨.mv (.l 4), some 7, none, []⟩,
    ⟨.mv (.l 5), some 8, none, []⟩]) (
  .seq (
  .seq (
  .reg [⟨.mv (.v 8), none, none, []⟩,
    ⟨.bin .neq false (.l 0) (.c (.int .i64 0)), some 16, none, []⟩]) (
  .cond (.v 16) (
   .seq (
   .reg [⟨.mv (.c (.bool false)), some 3, none, []⟩]) (
   .ret)) (
   .skip))) (
  .seq (
  .reg [⟨.mv (.c (.int .i64 0)), some 9, none, []⟩,
    ⟨.mv (.c (.int .i64 0)), some 10, none, []⟩]) (
  .seq (
  .seq (
  .reg [⟨.mv (.c (.int .i64 0)), some 11, none, []⟩]) (
  .block 0 (
   .loopS [4, 5, 6, 7, 9, 10, 11] 5 (
    .seq (
    .seq (
    .reg [⟨.mv (.v 11), none, none, []⟩,
      ⟨.fieldAddr 1 (.v 5), none, none, []⟩,
      ⟨.load false 1 (.l 1), none, none, []⟩,
      ⟨.bin .lss false (.l 0) (.l 2), some 17, none, []⟩]) (
    .cond (.v 17) (
     .skip) (
     .exit 0))) (
    .seq (
    .block 1 (
     .seq (
     .reg [⟨.mv (.c (.int .i64 0)), some 12, none, []⟩]) (
     .seq (
     .seq (
     .reg [⟨.mv (.c (.int .i64 0)), some 13, none, []⟩]) (
     .block 2 (
      .loopS [4, 5, 6, 7, 9, 10, 11, 12, 13] 5 (
       .seq (
       .seq (
       .reg [⟨.mv (.v 13), none, none, []⟩,
         ⟨.fieldAddr 0 (.v 5), none, none, []⟩,
         ⟨.load false 1 (.l 1), none, none, []⟩,
         ⟨.bin .lss false (.l 0) (.l 2), some 18, none, []⟩]) (
       .cond (.v 18) (
        .skip) (
        .exit 2))) (
       .seq (
       .block 3 (
        .seq (
        .seq (
        .reg [⟨.fieldAddr 2 (.v 5), none, none, []⟩,
          ⟨.load false 1 (.l 0), none, none, []⟩,
          ⟨.mv (.v 11), none, none, []⟩,
          ⟨.indexAddr 1 (.l 1) (.l 2), none, none, []⟩,
          ⟨.load false 1 (.l 3), none, none, []⟩,
          ⟨.mv (.v 13), none, none, []⟩,
          ⟨.indexAddr 1 (.l 4) (.l 5), none, none, []⟩,
          ⟨.load false 1 (.l 6), some 19, none, []⟩]) (
        .cond (.v 19) (
         .reg [⟨.mv (.v 12), none, none, []⟩,
           ⟨.bin .add false (.l 0) (.c (.int .i64 1)), none, none, []⟩,
           ⟨.mv (.l 1), some 12, none, []⟩]) (
         .skip))) (
        .seq (
        .reg [⟨.fieldAddr 3 (.v 5), none, none, []⟩,
          ⟨.load false 1 (.l 0), none, none, []⟩,
          ⟨.mv (.v 11), none, none, []⟩,
          ⟨.indexAddr 1 (.l 1) (.l 2), none, none, []⟩,
          ⟨.load false 1 (.l 3), none, none, []⟩,
          ⟨.mv (.v 13), none, none, []⟩,
          ⟨.indexAddr 1 (.l 4) (.l 5), none, none, []⟩,
          ⟨.load false 1 (.l 6), some 20, none, []⟩]) (
        .cond (.v 20) (
         .reg [⟨.mv (.v 12), none, none, []⟩,
           ⟨.bin .add false (.l 0) (.c (.int .i64 1)), none, none, []⟩,
           ⟨.mv (.l 1), some 12, none, []⟩]) (
         .skip))))) (
       .reg [⟨.mv (.v 13), none, none, []⟩,
         ⟨.bin .add false (.l 0) (.c (.int .i64 1)), none, none, []⟩,
         ⟨.mv (.l 1), some 13, none, []⟩])))))) (
     .reg [⟨.mv (.v 9), none, none, []⟩,
       ⟨.mv (.v 12), none, none, []⟩,
       ⟨.mv (.v 6), none, none, []⟩,
       ⟨.bin .add false (.l 1) (.l 2), none, none, []⟩,
       ⟨.bin .sub false (.l 3) (.c (.int .i64 1)), none, none, []⟩,
       ⟨.mv (.v 6), none, none, []⟩,
       ⟨.bin .quo false (.l 4) (.l 5), none, none, []⟩,
       ⟨.bin .add false (.l 0) (.l 6), none, none, []⟩,
       ⟨.mv (.l 7), some 9, none, []⟩])))) (
    .reg [⟨.mv (.v 11), none, none, []⟩,
      ⟨.bin .add false (.l 0) (.c (.int .i64 1)), none, none, []⟩,
      ⟨.mv (.l 1), some 11, none, []⟩])))))) (
  .seq (
  .seq (
  .reg [⟨.mv (.c (.int .i64 0)), some 14, none, []⟩]) (
  .block 4 (
   .loopS [4, 5, 6, 7, 9, 10, 14] 5 (
    .seq (
    .seq (
    .reg [⟨.mv (.v 14), none, none, []⟩,
      ⟨.mv (.v 7), none, none, []⟩,
      ⟨.len false (.l 1), none, none, []⟩,
      ⟨.bin .lss false (.l 0) (.l 2), some 21, none, []⟩]) (
    .cond (.v 21) (
     .skip) (
     .exit 4))) (
    .seq (
    .block 5 (
     .seq (
     .reg [⟨.mv (.v 7), none, none, []⟩,
       ⟨.mv (.v 14), none, none, []⟩,
       ⟨.indexAddr 3 (.l 0) (.l 1), none, none, []⟩,
       ⟨.fieldAddr 1 (.l 2), none, none, []⟩,
       ⟨.load false 1 (.l 3), none, none, []⟩,
       ⟨.len false (.l 4), none, none, []⟩,
       ⟨.mv (.v 7), none, none, []⟩,
       ⟨.mv (.v 14), none, none, []⟩,
       ⟨.indexAddr 3 (.l 6) (.l 7), none, none, []⟩,
       ⟨.fieldAddr 2 (.l 8), none, none, []⟩,
       ⟨.load false 1 (.l 9), none, none, []⟩,
       ⟨.len false (.l 10), none, none, []⟩,
       ⟨.bin .add false (.l 5) (.l 11), none, none, []⟩,
       ⟨.mv (.l 12), some 15, none, []⟩]) (
     .seq (
     .seq (
     .reg [⟨.mv (.v 7), none, none, []⟩,
       ⟨.mv (.v 14), none, none, []⟩,
       ⟨.indexAddr 3 (.l 0) (.l 1), none, none, []⟩,
       ⟨.load true 3 (.l 2), none, none, []⟩,
       ⟨.fieldAddr 0 (.v 5), none, none, []⟩,
       ⟨.load false 1 (.l 4), none, none, []⟩,
       ⟨.fieldAddr 1 (.v 5), none, none, []⟩,
       ⟨.load false 1 (.l 6), none, none, []⟩,
       ⟨.call 17 [(.l 3), (.l 5), (.l 7)] [(0, 0)] false, none, none, []⟩,
       ⟨.un .not (.l 8), none, none, []⟩,
       ⟨.mv (.l 9), none, none, []⟩,
       ⟨.mv (.v 15), none, some ((.l 10), false), []⟩,
       ⟨.bin .lss false (.l 11) (.c (.int .i64 1)), none, some ((.l 10), false), []⟩,
       ⟨.pick (.l 10) (.c (.bool true)) (.l 12), none, none, []⟩,
       ⟨.mv (.l 13), none, none, []⟩,
       ⟨.mv (.v 15), none, some ((.l 14), false), []⟩,
       ⟨.mv (.v 6), none, some ((.l 14), false), []⟩,
       ⟨.bin .gtr false (.l 15) (.l 16), none, some ((.l 14), false), []⟩,
       ⟨.pick (.l 14) (.c (.bool true)) (.l 17), some 22, none, []⟩]) (
     .cond (.v 22) (
      .seq (
      .reg [⟨.mv (.c (.bool false)), some 3, none, []⟩]) (
      .ret)) (
      .skip))) (
     .seq (
     .seq (
     .reg [⟨.mv (.v 14), none, none, []⟩,
       ⟨.bin .gtr false (.l 0) (.c (.int .i64 0)), none, none, []⟩,
       ⟨.mv (.l 1), none, none, []⟩,
       ⟨.mv (.v 7), none, some ((.l 2), true), []⟩,
       ⟨.mv (.v 14), none, some ((.l 2), true), []⟩,
       ⟨.bin .sub false (.l 4) (.c (.int .i64 1)), none, some ((.l 2), true), []⟩,
       ⟨.indexAddr 3 (.l 3) (.l 5), none, some ((.l 2), true), []⟩,
       ⟨.fieldAddr 0 (.l 6), none, some ((.l 2), true), []⟩,
       ⟨.load false 1 (.l 7), none, some ((.l 2), true), []⟩,
       ⟨.mv (.v 7), none, some ((.l 2), true), []⟩,
       ⟨.mv (.v 14), none, some ((.l 2), true), []⟩,
       ⟨.indexAddr 3 (.l 9) (.l 10), none, some ((.l 2), true), []⟩,
       ⟨.fieldAddr 0 (.l 11), none, some ((.l 2), true), []⟩,
       ⟨.load false 1 (.l 12), none, some ((.l 2), true), []⟩,
       ⟨.bin .gtr false (.l 8) (.l 13), none, some ((.l 2), true), []⟩,
       ⟨.mv (.l 14), none, some ((.l 2), true), []⟩,
       ⟨.mv (.v 7), none, some ((.l 15), false), []⟩,
       ⟨.mv (.v 14), none, some ((.l 15), false), []⟩,
       ⟨.bin .sub false (.l 17) (.c (.int .i64 1)), none, some ((.l 15), false), []⟩,
       ⟨.indexAddr 3 (.l 16) (.l 18), none, some ((.l 15), false), []⟩,
       ⟨.fieldAddr 0 (.l 19), none, some ((.l 15), false), []⟩,
       ⟨.load false 1 (.l 20), none, some ((.l 15), false), []⟩,
       ⟨.mv (.v 7), none, some ((.l 15), false), []⟩,
       ⟨.mv (.v 14), none, some ((.l 15), false), []⟩,
       ⟨.indexAddr 3 (.l 22) (.l 23), none, some ((.l 15), false), []⟩,
       ⟨.fieldAddr 0 (.l 24), none, some ((.l 15), false), []⟩,
       ⟨.load false 1 (.l 25), none, some ((.l 15), false), []⟩,
       ⟨.bin .eql false (.l 21) (.l 26), none, some ((.l 15), false), []⟩,
       ⟨.mv (.l 27), none, some ((.l 15), false), []⟩,
       ⟨.mv (.v 7), none, some ((.l 28), true), []⟩,
       ⟨.mv (.v 14), none, some ((.l 28), true), []⟩,
       ⟨.bin .sub false (.l 30) (.c (.int .i64 1)), none, some ((.l 28), true), []⟩,
       ⟨.indexAddr 3 (.l 29) (.l 31), none, some ((.l 28), true), []⟩,
       ⟨.fieldAddr 1 (.l 32), none, some ((.l 28), true), []⟩,
       ⟨.load false 1 (.l 33), none, some ((.l 28), true), []⟩,
       ⟨.len false (.l 34), none, some ((.l 28), true), []⟩,
       ⟨.mv (.v 7), none, some ((.l 28), true), []⟩,
       ⟨.mv (.v 14), none, some ((.l 28), true), []⟩,
       ⟨.bin .sub false (.l 37) (.c (.int .i64 1)), none, some ((.l 28), true), []⟩,
       ⟨.indexAddr 3 (.l 36) (.l 38), none, some ((.l 28), true), []⟩,
       ⟨.fieldAddr 2 (.l 39), none, some ((.l 28), true), []⟩,
       ⟨.load false 1 (.l 40), none, some ((.l 28), true), []⟩,
       ⟨.len false (.l 41), none, some ((.l 28), true), []⟩,
       ⟨.bin .add false (.l 35) (.l 42), none, some ((.l 28), true), []⟩,
       ⟨.mv (.v 6), none, some ((.l 28), true), []⟩,
       ⟨.bin .neq false (.l 43) (.l 44), none, some ((.l 28), true), []⟩,
       ⟨.pick (.l 28) (.l 45) (.c (.bool false)), none, some ((.l 15), false), []⟩,
       ⟨.pick (.l 15) (.c (.bool true)) (.l 46), none, some ((.l 2), true), []⟩,
       ⟨.pick (.l 2) (.l 47) (.c (.bool false)), some 23, none, []⟩]) (
     .cond (.v 23) (
      .seq (
      .reg [⟨.mv (.c (.bool false)), some 3, none, []⟩]) (
      .ret)) (
      .skip))) (
     .reg [⟨.mv (.v 10), none, none, []⟩,
       ⟨.mv (.v 15), none, none, []⟩,
       ⟨.bin .add false (.l 0) (.l 1), none, none, []⟩,
       ⟨.mv (.l 2), some 10, none, []⟩]))))) (
    .reg [⟨.mv (.v 14), none, none, []⟩,
      ⟨.bin .add false (.l 0) (.c (.int .i64 1)), none, none, []⟩,
      ⟨.mv (.l 1), some 14, none, []⟩])))))) (
  .seq (
  .reg [⟨.mv (.v 7), none, none, []⟩,
    ⟨.len false (.l 0), none, none, []⟩,
    ⟨.mv (.v 9), none, none, []⟩,
    ⟨.bin .eql false (.l 1) (.l 2), none, none, []⟩,
    ⟨.mv (.l 3), none, none, []⟩,
    ⟨.mv (.v 10), none, some ((.l 4), true), []⟩,
    ⟨.load true 4 (.v 5), none, some ((.l 4), true), []⟩,
    ⟨.call 13 [(.l 6)] [(0, 0)] true, none, some ((.l 4), true), []⟩,
    ⟨.bin .eql false (.l 5) (.l 7), none, some ((.l 4), true), []⟩,
    ⟨.pick (.l 4) (.l 8) (.c (.bool false)), none, none, []⟩,
    ⟨.mv (.l 9), none, none, []⟩,
    ⟨.mv (.v 4), none, some ((.l 10), true), []⟩,
    ⟨.pick (.l 10) (.l 11) (.c (.bool false)), none, none, []⟩,
    ⟨.mv (.l 12), some 3, none, []⟩]) (
  .ret))))))))))⟩

theorem c3 : compFn Try.prog 3 = some { X3 with body := strip X3.body } := by kernel_rfl
theorem c4 : compFn Try.prog 4 = some { X4 with body := strip X4.body } := by kernel_rfl
theorem c6 : compFn Try.prog 6 = some { X6 with body := strip X6.body } := by kernel_rfl
theorem c5 : compFn Try.prog 5 = some { X5 with body := strip X5.body } := by kernel_rfl
end Go.Proofs.Ytalgbgeocpbadaa.K
