/-
  Chapter 26: StrikeJoins, as the machine takes it (printed).
-/
import Derived.Test.YtalgbgeocpbadaaProg
import Derived.KernelRfl
import Derived.Test.YtalgbgeocpbadaaMg4
namespace Go.Proofs.Ytalgbgeocpbadaa.K
set_option linter.unusedSimpArgs false
set_option linter.unusedVariables false
set_option linter.unusedSectionVars false
open Go.Proofs.Ytalgbgeocpbadaa.Am
def X7 : XFn :=
 ⟨215, [0, 1, 2, 3, 6, 7, 8, 9, 10, 11, 12, 13, 14, 15, 16, 17, 130, 139, 145], 27, [(4, none)],
  .seq (
  .reg [⟨.box 0 (.v 0), some 3, none, []⟩,
    ⟨.mv (.c (.bool false)), some 4, none, []⟩]) (
  .seq (
  .reg [⟨.call 8 [] [(0, 0)] true, none, none, []⟩,
    ⟨.mv (.l 0), some 5, none, []⟩]) (
  .seq (
  .reg [⟨.fieldAddr 0 (.v 3), none, none, []⟩,
    ⟨.load false 1 (.l 0), none, none, []⟩,
    ⟨.fieldAddr 1 (.v 3), none, none, []⟩,
    ⟨.load false 1 (.l 2), none, none, []⟩,
    ⟨.build [(.int .u8 0), (.int .u8 0), .nils] [(0, 1, (.l 1)), (1, 1, (.l 3))], none, none, []⟩,
    ⟨.call 9 [(.l 4)] [(0, 0), (0, 0), (1, 1), (2, 1)] true, none, none, []⟩,
    ⟨.alloc 3 [(.int .i64 0), (.int .i64 0), .nils, .nils], some 6, none, []⟩,
    ⟨.store 4 (.l 6) (.l 5), none, none, []⟩]) (
  .frz [(1, true), (2, true), (3, false)] (
  .seq (
  .reg [⟨.mv (.v 1), none, none, []⟩,
    ⟨.fieldAddr 0 (.v 6), none, none, []⟩,
    ⟨.load false 1 (.l 1), none, none, []⟩,
    ⟨.fieldAddr 1 (.v 6), none, none, []⟩,
    ⟨.load false 1 (.l 3), none, none, []⟩,
    ⟨.call 19 [(.l 0), (.l 2), (.l 4)] [(4, 3)] false, none, none, []⟩,
    ⟨.mv (.v 2), none, none, [4]⟩,
    ⟨.fieldAddr 0 (.v 6), none, none, [4]⟩,
    ⟨.load false 1 (.l 7), none, none, [4]⟩,
    ⟨.fieldAddr 1 (.v 6), none, none, [4]⟩,
    ⟨.load false 1 (.l 9), none, none, [4]⟩,
    ⟨.call 19 [(.l 6), (.l 8), (.l 10)] [(5, 3)] false, none, none, []⟩,
    ⟨.mv (.l 5), some 7, none, []⟩,
    ⟨.mv (.l 11), some 8, none, []⟩]) (
  .frz [(4, true), (5, true)] (
  .seq (
  .reg [⟨.fieldAddr 0 (.v 6), none, none, [10, 11]⟩,
    ⟨.load false 1 (.l 0), none, none, [10, 11]⟩,
    ⟨.fieldAddr 1 (.v 6), none, none, [10, 11]⟩,
    ⟨.load false 1 (.l 2), none, none, [10, 11]⟩,
    ⟨.mv (.v 7), none, none, [10, 11]⟩,
    ⟨.call 16 [(.l 1), (.l 3), (.l 4)] [(0, 0), (0, 0), (6, 1), (7, 1), (0, 0), (0, 0)] false, none, none, [10, 11]⟩,
    ⟨.fieldAddr 0 (.v 6), none, none, [6, 7, 10, 11]⟩,
    ⟨.load false 1 (.l 6), none, none, [6, 7, 10, 11]⟩,
    ⟨.fieldAddr 1 (.v 6), none, none, [6, 7, 10, 11]⟩,
    ⟨.load false 1 (.l 8), none, none, [6, 7, 10, 11]⟩,
    ⟨.mv (.v 8), none, none, [6, 7, 10, 11]⟩,
    ⟨.call 16 [(.l 7), (.l 9), (.l 10)] [(0, 0), (0, 0), (8, 1), (9, 1), (0, 0), (0, 0)] false, none, none, [10, 11]⟩,
    ⟨.alloc 10 [(.int .i64 0), (.int .i64 0), .nils, .nils, (.int .i64 0), (.int .i64 0)], some 9, none, [6, 7, 8, 9, 11]⟩,
    ⟨.alloc 11 [(.int .i64 0), (.int .i64 0), .nils, .nils, (.int .i64 0), (.int .i64 0)], some 10, none, [6, 7, 8, 9, 10]⟩,
    ⟨.store 6 (.l 12) (.l 5), none, none, []⟩,
    ⟨.store 6 (.l 13) (.l 11), none, none, []⟩]) (
  .frz [(6, true), (7, true), (8, true), (9, true), (10, false), (11, false)] (
  .seq (
  .reg [⟨.fieldAddr 0 (.v 6), none, none, [12, 12, 12, 17, 22, 23]⟩,
    ⟨.load false 1 (.l 0), none, none, [12, 12, 12, 17, 22, 23]⟩,
    ⟨.fieldAddr 1 (.v 6), none, none, [12, 12, 12, 17, 22, 23]⟩,
    ⟨.load false 1 (.l 2), none, none, [12, 12, 12, 17, 22, 23]⟩,
    ⟨.mkarr 12 3 [] [], none, none, [17, 22, 23]⟩,
    ⟨.mv (.v 7), none, none, [12, 17, 22, 23]⟩,
    ⟨.append 12 3 56 2 (.l 4) (.l 5), none, none, [17, 22, 23]⟩,
    ⟨.mv (.v 8), none, none, [12, 12, 17, 22, 23]⟩,
    ⟨.append 12 3 56 2 (.l 6) (.l 7), none, none, [17, 22, 23]⟩,
    ⟨.call 16 [(.l 1), (.l 3), (.l 8)] [(0, 0), (0, 0), (15, 1), (16, 1), (0, 0), (0, 0)] false, none, none, [17, 22, 23]⟩,
    ⟨.fieldAddr 0 (.v 6), none, none, [12, 12, 12, 15, 16, 17, 17, 17, 22, 23]⟩,
    ⟨.load false 1 (.l 10), none, none, [12, 12, 12, 15, 16, 17, 17, 17, 22, 23]⟩,
    ⟨.fieldAddr 1 (.v 6), none, none, [12, 12, 12, 15, 16, 17, 17, 17, 22, 23]⟩,
    ⟨.load false 1 (.l 12), none, none, [12, 12, 12, 15, 16, 17, 17, 17, 22, 23]⟩,
    ⟨.mkarr 17 3 [] [], none, none, [12, 12, 12, 15, 16, 22, 23]⟩,
    ⟨.mv (.v 8), none, none, [12, 12, 12, 15, 16, 17, 22, 23]⟩,
    ⟨.append 17 3 56 2 (.l 14) (.l 15), none, none, [22, 23]⟩,
    ⟨.mv (.v 7), none, none, [12, 12, 12, 15, 16, 17, 17, 22, 23]⟩,
    ⟨.append 17 3 56 2 (.l 16) (.l 17), none, none, [22, 23]⟩,
    ⟨.call 16 [(.l 11), (.l 13), (.l 18)] [(0, 0), (0, 0), (20, 1), (21, 1), (0, 0), (0, 0)] false, none, none, [22, 23]⟩,
    ⟨.alloc 22 [(.int .i64 0), (.int .i64 0), .nils, .nils, (.int .i64 0), (.int .i64 0)], some 11, none, [12, 12, 12, 15, 16, 17, 17, 17, 20, 21, 23]⟩,
    ⟨.alloc 23 [(.int .i64 0), (.int .i64 0), .nils, .nils, (.int .i64 0), (.int .i64 0)], some 12, none, [12, 12, 12, 15, 16, 17, 17, 17, 20, 21, 22]⟩,
    ⟨.store 6 (.l 20) (.l 9), none, none, []⟩,
    ⟨.store 6 (.l 21) (.l 19), none, none, []⟩]) (
  .frz [(15, true), (16, true), (20, true), (21, true), (22, false), (23, false)] (
  .seq (
  .seq (
  .reg [⟨.fieldAddr 5 (.v 9), none, none, []⟩,
    ⟨.load false 1 (.l 0), none, none, []⟩,
    ⟨.bin .neq false (.l 1) (.c (.int .i64 0)), none, none, []⟩,
    ⟨.mv (.l 2), none, none, []⟩,
    ⟨.fieldAddr 5 (.v 10), none, some ((.l 3), false), []⟩,
    ⟨.load false 1 (.l 4), none, some ((.l 3), false), []⟩,
    ⟨.bin .neq false (.l 5) (.c (.int .i64 0)), none, some ((.l 3), false), []⟩,
    ⟨.pick (.l 3) (.c (.bool true)) (.l 6), none, none, []⟩,
    ⟨.mv (.l 7), none, none, []⟩,
    ⟨.fieldAddr 5 (.v 11), none, some ((.l 8), false), []⟩,
    ⟨.load false 1 (.l 9), none, some ((.l 8), false), []⟩,
    ⟨.bin .neq false (.l 10) (.c (.int .i64 0)), none, some ((.l 8), false), []⟩,
    ⟨.pick (.l 8) (.c (.bool true)) (.l 11), none, none, []⟩,
    ⟨.mv (.l 12), none, none, []⟩,
    ⟨.fieldAddr 5 (.v 12), none, some ((.l 13), false), []⟩,
    ⟨.load false 1 (.l 14), none, some ((.l 13), false), []⟩,
    ⟨.bin .neq false (.l 15) (.c (.int .i64 0)), none, some ((.l 13), false), []⟩,
    ⟨.pick (.l 13) (.c (.bool true)) (.l 16), none, none, []⟩,
    ⟨.mv (.l 17), none, none, []⟩,
    ⟨.fieldAddr 0 (.v 9), none, some ((.l 18), false), []⟩,
    ⟨.load true 4 (.l 19), none, some ((.l 18), false), []⟩,
    ⟨.call 21 [(.l 20)] [(0, 0)] true, none, some ((.l 18), false), []⟩,
    ⟨.un .not (.l 21), none, some ((.l 18), false), []⟩,
    ⟨.pick (.l 18) (.c (.bool true)) (.l 22), none, none, []⟩,
    ⟨.mv (.l 23), none, none, []⟩,
    ⟨.fieldAddr 0 (.v 10), none, some ((.l 24), false), []⟩,
    ⟨.load true 4 (.l 25), none, some ((.l 24), false), []⟩,
    ⟨.call 21 [(.l 26)] [(0, 0)] true, none, some ((.l 24), false), []⟩,
    ⟨.un .not (.l 27), none, some ((.l 24), false), []⟩,
    ⟨.pick (.l 24) (.c (.bool true)) (.l 28), none, none, []⟩,
    ⟨.mv (.l 29), none, none, []⟩,
    ⟨.fieldAddr 0 (.v 9), none, some ((.l 30), false), []⟩,
    ⟨.fieldAddr 0 (.l 31), none, some ((.l 30), false), []⟩,
    ⟨.load false 1 (.l 32), none, some ((.l 30), false), []⟩,
    ⟨.fieldAddr 0 (.v 6), none, some ((.l 30), false), []⟩,
    ⟨.load false 1 (.l 34), none, some ((.l 30), false), []⟩,
    ⟨.bin .neq false (.l 33) (.l 35), none, some ((.l 30), false), []⟩,
    ⟨.pick (.l 30) (.c (.bool true)) (.l 36), none, none, []⟩,
    ⟨.mv (.l 37), none, none, []⟩,
    ⟨.fieldAddr 0 (.v 9), none, some ((.l 38), false), []⟩,
    ⟨.fieldAddr 1 (.l 39), none, some ((.l 38), false), []⟩,
    ⟨.load false 1 (.l 40), none, some ((.l 38), false), []⟩,
    ⟨.fieldAddr 1 (.v 6), none, some ((.l 38), false), []⟩,
    ⟨.load false 1 (.l 42), none, some ((.l 38), false), []⟩,
    ⟨.bin .neq false (.l 41) (.l 43), none, some ((.l 38), false), []⟩,
    ⟨.pick (.l 38) (.c (.bool true)) (.l 44), none, none, []⟩,
    ⟨.mv (.l 45), none, none, []⟩,
    ⟨.fieldAddr 0 (.v 10), none, some ((.l 46), false), []⟩,
    ⟨.fieldAddr 0 (.l 47), none, some ((.l 46), false), []⟩,
    ⟨.load false 1 (.l 48), none, some ((.l 46), false), []⟩,
    ⟨.fieldAddr 0 (.v 6), none, some ((.l 46), false), []⟩,
    ⟨.load false 1 (.l 50), none, some ((.l 46), false), []⟩,
    ⟨.bin .neq false (.l 49) (.l 51), none, some ((.l 46), false), []⟩,
    ⟨.pick (.l 46) (.c (.bool true)) (.l 52), none, none, []⟩,
    ⟨.mv (.l 53), none, none, []⟩,
    ⟨.fieldAddr 0 (.v 10), none, some ((.l 54), false), []⟩,
    ⟨.fieldAddr 1 (.l 55), none, some ((.l 54), false), []⟩,
    ⟨.load false 1 (.l 56), none, some ((.l 54), false), []⟩,
    ⟨.fieldAddr 1 (.v 6), none, some ((.l 54), false), []⟩,
    ⟨.load false 1 (.l 58), none, some ((.l 54), false), []⟩,
    ⟨.bin .neq false (.l 57) (.l 59), none, some ((.l 54), false), []⟩,
    ⟨.pick (.l 54) (.c (.bool true)) (.l 60), some 16, none, []⟩]) (
  .cond (.v 16) (
   .seq (
   .reg [⟨.mv (.c (.bool false)), some 4, none, []⟩]) (
   .ret)) (
   .skip))) (
  .seq (
  .reg [⟨.fieldAddr 0 (.v 6), none, none, []⟩,
    ⟨.load false 1 (.l 0), none, none, []⟩,
    ⟨.fieldAddr 1 (.v 6), none, none, []⟩,
    ⟨.load false 1 (.l 2), none, none, []⟩,
    ⟨.call 22 [(.l 1), (.l 3)] [(0, 0), (0, 0), (24, 1), (25, 1)] true, none, none, []⟩,
    ⟨.alloc 26 [(.int .i64 0), (.int .i64 0), .nils, .nils], some 13, none, []⟩,
    ⟨.store 4 (.l 5) (.l 4), none, none, []⟩]) (
  .seq (
  .seq (
  .reg [⟨.mv (.c (.int .i64 0)), some 14, none, []⟩]) (
  .block 0 (
   .loopS [5, 6, 9, 10, 11, 12, 13, 14] 27 (
    .seq (
    .seq (
    .reg [⟨.mv (.v 14), none, none, []⟩,
      ⟨.fieldAddr 1 (.v 6), none, none, []⟩,
      ⟨.load false 1 (.l 1), none, none, []⟩,
      ⟨.bin .lss false (.l 0) (.l 2), some 17, none, []⟩]) (
    .cond (.v 17) (
     .skip) (
     .exit 0))) (
    .seq (
    .block 1 (
     .seq (
     .reg [⟨.mv (.c (.int .i64 0)), some 15, none, []⟩]) (
     .block 2 (
      .loopS [5, 6, 9, 10, 11, 12, 13, 14, 15] 27 (
       .seq (
       .seq (
       .reg [⟨.mv (.v 15), none, none, []⟩,
         ⟨.fieldAddr 0 (.v 6), none, none, []⟩,
         ⟨.load false 1 (.l 1), none, none, []⟩,
         ⟨.bin .lss false (.l 0) (.l 2), some 18, none, []⟩]) (
       .cond (.v 18) (
        .skip) (
        .exit 2))) (
       .seq (
       .block 3 (
        .seq (
        .reg [⟨.fieldAddr 2 (.v 13), none, none, []⟩,
          ⟨.load false 1 (.l 0), none, none, []⟩,
          ⟨.mv (.v 14), none, none, []⟩,
          ⟨.indexAddr 1 (.l 1) (.l 2), none, none, []⟩,
          ⟨.load false 1 (.l 3), none, none, []⟩,
          ⟨.mv (.v 15), none, none, []⟩,
          ⟨.fieldAddr 0 (.v 9), none, none, []⟩,
          ⟨.fieldAddr 2 (.l 6), none, none, []⟩,
          ⟨.load false 1 (.l 7), none, none, []⟩,
          ⟨.mv (.v 14), none, none, []⟩,
          ⟨.indexAddr 1 (.l 8) (.l 9), none, none, []⟩,
          ⟨.load false 1 (.l 10), none, none, []⟩,
          ⟨.mv (.v 15), none, none, []⟩,
          ⟨.indexAddr 1 (.l 11) (.l 12), none, none, []⟩,
          ⟨.load false 1 (.l 13), none, none, []⟩,
          ⟨.mv (.l 14), none, none, []⟩,
          ⟨.fieldAddr 0 (.v 10), none, some ((.l 15), false), []⟩,
          ⟨.fieldAddr 2 (.l 16), none, some ((.l 15), false), []⟩,
          ⟨.load false 1 (.l 17), none, some ((.l 15), false), []⟩,
          ⟨.mv (.v 14), none, some ((.l 15), false), []⟩,
          ⟨.indexAddr 1 (.l 18) (.l 19), none, some ((.l 15), false), []⟩,
          ⟨.load false 1 (.l 20), none, some ((.l 15), false), []⟩,
          ⟨.mv (.v 15), none, some ((.l 15), false), []⟩,
          ⟨.indexAddr 1 (.l 21) (.l 22), none, some ((.l 15), false), []⟩,
          ⟨.load false 1 (.l 23), none, some ((.l 15), false), []⟩,
          ⟨.pick (.l 15) (.c (.bool true)) (.l 24), none, none, []⟩,
          ⟨.indexAddr 1 (.l 4) (.l 5), none, none, []⟩,
          ⟨.store 1 (.l 26) (.l 25), none, none, []⟩]) (
        .reg [⟨.fieldAddr 3 (.v 13), none, none, []⟩,
          ⟨.load false 1 (.l 0), none, none, []⟩,
          ⟨.mv (.v 14), none, none, []⟩,
          ⟨.indexAddr 1 (.l 1) (.l 2), none, none, []⟩,
          ⟨.load false 1 (.l 3), none, none, []⟩,
          ⟨.mv (.v 15), none, none, []⟩,
          ⟨.fieldAddr 0 (.v 9), none, none, []⟩,
          ⟨.fieldAddr 3 (.l 6), none, none, []⟩,
          ⟨.load false 1 (.l 7), none, none, []⟩,
          ⟨.mv (.v 14), none, none, []⟩,
          ⟨.indexAddr 1 (.l 8) (.l 9), none, none, []⟩,
          ⟨.load false 1 (.l 10), none, none, []⟩,
          ⟨.mv (.v 15), none, none, []⟩,
          ⟨.indexAddr 1 (.l 11) (.l 12), none, none, []⟩,
          ⟨.load false 1 (.l 13), none, none, []⟩,
          ⟨.mv (.l 14), none, none, []⟩,
          ⟨.fieldAddr 0 (.v 10), none, some ((.l 15), false), []⟩,
          ⟨.fieldAddr 3 (.l 16), none, some ((.l 15), false), []⟩,
          ⟨.load false 1 (.l 17), none, some ((.l 15), false), []⟩,
          ⟨.mv (.v 14), none, some ((.l 15), false), []⟩,
          ⟨.indexAddr 1 (.l 18) (.l 19), none, some ((.l 15), false), []⟩,
          ⟨.load false 1 (.l 20), none, some ((.l 15), false), []⟩,
          ⟨.mv (.v 15), none, some ((.l 15), false), []⟩,
          ⟨.indexAddr 1 (.l 21) (.l 22), none, some ((.l 15), false), []⟩,
          ⟨.load false 1 (.l 23), none, some ((.l 15), false), []⟩,
          ⟨.pick (.l 15) (.c (.bool true)) (.l 24), none, none, []⟩,
          ⟨.indexAddr 1 (.l 4) (.l 5), none, none, []⟩,
          ⟨.store 1 (.l 26) (.l 25), none, none, []⟩]))) (
       .reg [⟨.mv (.v 15), none, none, []⟩,
         ⟨.bin .add false (.l 0) (.c (.int .i64 1)), none, none, []⟩,
         ⟨.mv (.l 1), some 15, none, []⟩]))))))) (
    .reg [⟨.mv (.v 14), none, none, []⟩,
      ⟨.bin .add false (.l 0) (.c (.int .i64 1)), none, none, []⟩,
      ⟨.mv (.l 1), some 14, none, []⟩])))))) (
  .seq (
  .reg [⟨.fieldAddr 0 (.v 11), none, none, []⟩,
    ⟨.load true 4 (.l 0), none, none, []⟩,
    ⟨.load true 4 (.v 13), none, none, []⟩,
    ⟨.call 23 [(.l 1), (.l 2)] [(0, 0)] true, none, none, []⟩,
    ⟨.mv (.l 3), none, none, []⟩,
    ⟨.fieldAddr 0 (.v 12), none, some ((.l 4), true), []⟩,
    ⟨.load true 4 (.l 5), none, some ((.l 4), true), []⟩,
    ⟨.load true 4 (.v 13), none, some ((.l 4), true), []⟩,
    ⟨.call 23 [(.l 6), (.l 7)] [(0, 0)] true, none, some ((.l 4), true), []⟩,
    ⟨.pick (.l 4) (.l 8) (.c (.bool false)), none, none, []⟩,
    ⟨.mv (.l 9), none, none, []⟩,
    ⟨.mv (.v 5), none, some ((.l 10), true), []⟩,
    ⟨.pick (.l 10) (.l 11) (.c (.bool false)), none, none, []⟩,
    ⟨.mv (.l 12), some 4, none, []⟩]) (
  .ret))))))))))))))⟩

theorem c7 : compFn Try.prog 7 = some { X7 with body := strip X7.body } := by kernel_rfl
end Go.Proofs.Ytalgbgeocpbadaa.K
