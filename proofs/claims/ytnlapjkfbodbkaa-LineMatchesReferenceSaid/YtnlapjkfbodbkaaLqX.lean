/-
  Chapter 18: LineMatchesReference as the plain machine has it.
-/
import Derived.Test.YtnlapjkfbodbkaaProg
import Derived.KernelRfl
import Derived.Test.YtnlapjkfbodbkaaLpA
import Derived.Test.YtnlapjkfbodbkaaLsA
namespace Go.Proofs.Ytnlapjkfbodbkaa.L
set_option linter.unusedSimpArgs false
set_option linter.unusedVariables false
set_option linter.unusedSectionVars false
open Go.Proofs.Ytnlapjkfbodbkaa.Am
def X3 : XFn :=
 ⟨112, [0, 1, 2, 5, 6, 7, 8, 9, 10, 11, 12, 13, 14, 15, 16, 17, 18, 28], 10, [(4, none)],
  .seq (
  .reg [⟨.box 0 (.v 2), some 3, none, []⟩,
    ⟨.mv (.c (.bool false)), some 4, none, []⟩]) (
  .seq (
  .reg [⟨.call 9 [] [(0, 0)] true, none, none, []⟩,
    ⟨.mv (.l 0), some 5, none, []⟩]) (
  .seq (
  .reg [⟨.mkarr 1 1 [] [], none, none, []⟩,
    ⟨.mv (.l 0), some 6, none, []⟩]) (
  .seq (
  .seq (
  .reg [⟨.mv (.c (.int .i64 0)), some 7, none, []⟩]) (
  .block 0 (
   .loopS [0, 1, 3, 5, 6, 7] 10 (
    .seq (
    .seq (
    .reg [⟨.mv (.v 7), none, none, []⟩,
      ⟨.mv (.v 0), none, none, []⟩,
      ⟨.len false (.l 1), none, none, []⟩,
      ⟨.bin .lss false (.l 0) (.l 2), none, none, []⟩,
      ⟨.mv (.l 3), none, none, []⟩,
      ⟨.mv (.v 7), none, some ((.l 4), true), []⟩,
      ⟨.bin .lss false (.l 5) (.c (.int .i64 80)), none, some ((.l 4), true), []⟩,
      ⟨.pick (.l 4) (.l 6) (.c (.bool false)), some 17, none, []⟩]) (
    .cond (.v 17) (
     .skip) (
     .exit 0))) (
    .seq (
    .block 1 (
     .reg [⟨.mv (.v 6), none, none, []⟩,
       ⟨.mv (.v 0), none, none, []⟩,
       ⟨.mv (.v 7), none, none, []⟩,
       ⟨.indexAddr 1 (.l 1) (.l 2), none, none, []⟩,
       ⟨.load false 1 (.l 3), none, none, []⟩,
       ⟨.mkarr 2 1 [(.int .u8 0)] [(0, (.l 4))], none, none, []⟩,
       ⟨.append 3 1 1 1 (.l 0) (.l 5), none, none, []⟩,
       ⟨.mv (.l 6), some 6, none, []⟩])) (
    .reg [⟨.mv (.v 7), none, none, []⟩,
      ⟨.bin .add false (.l 0) (.c (.int .i64 1)), none, none, []⟩,
      ⟨.mv (.l 1), some 7, none, []⟩])))))) (
  .seq (
  .reg [⟨.indexAddrA 2 1 (.v 3) (.c (.int .i64 0)), none, none, []⟩,
    ⟨.load false 1 (.l 0), none, none, []⟩,
    ⟨.conv .i64 (.l 1), none, none, []⟩,
    ⟨.indexAddrA 2 1 (.v 3) (.c (.int .i64 1)), none, none, []⟩,
    ⟨.load false 1 (.l 3), none, none, []⟩,
    ⟨.conv .i64 (.l 4), none, none, []⟩,
    ⟨.build [(.int .i64 0), (.int .i64 0)] [(0, 1, (.l 2)), (1, 1, (.l 5))], none, none, []⟩,
    ⟨.alloc 4 [(.int .i64 0), (.int .i64 0)], some 8, none, []⟩,
    ⟨.store 2 (.l 7) (.l 6), none, none, []⟩]) (
  .seq (
  .reg [⟨.mv (.v 6), none, none, []⟩,
    ⟨.mv (.v 1), none, none, []⟩,
    ⟨.conv .i64 (.l 1), none, none, []⟩,
    ⟨.load true 2 (.v 8), none, none, []⟩,
    ⟨.call 10 [(.l 0), (.l 2), (.l 3)] [(5, 1), (0, 0), (0, 0)] true, none, none, []⟩,
    ⟨.mv (.l 4), none, none, []⟩,
    ⟨.extract (.l 5) 0, none, none, []⟩,
    ⟨.extract (.l 5) 1, none, none, []⟩,
    ⟨.extract (.l 5) 2, none, none, []⟩,
    ⟨.mv (.l 6), some 9, none, []⟩,
    ⟨.mv (.l 7), some 10, none, []⟩,
    ⟨.mv (.l 8), some 11, none, []⟩]) (
  .seq (
  .reg [⟨.mv (.v 6), none, none, []⟩,
    ⟨.mv (.v 1), none, none, []⟩,
    ⟨.conv .i64 (.l 1), none, none, []⟩,
    ⟨.load true 2 (.v 8), none, none, []⟩,
    ⟨.call 11 [(.l 0), (.l 2), (.l 3)] [(6, 1), (0, 0), (0, 0)] true, none, none, []⟩,
    ⟨.alloc 7 [.nils, (.int .i64 0), (.int .i64 0)], some 12, none, []⟩,
    ⟨.store 3 (.l 5) (.l 4), none, none, []⟩]) (
  .seq (
  .reg [⟨.mv (.v 6), none, none, []⟩,
    ⟨.call 12 [(.l 0)] [(0, 0), (0, 0)] true, none, none, []⟩,
    ⟨.mv (.l 1), none, none, []⟩,
    ⟨.extract (.l 2) 0, none, none, []⟩,
    ⟨.extract (.l 2) 1, none, none, []⟩,
    ⟨.mv (.l 3), some 13, none, []⟩,
    ⟨.mv (.l 4), some 14, none, []⟩]) (
  .seq (
  .reg [⟨.mv (.v 6), none, none, []⟩,
    ⟨.call 13 [(.l 0)] [(0, 0), (0, 0)] true, none, none, []⟩,
    ⟨.mv (.l 1), none, none, []⟩,
    ⟨.extract (.l 2) 0, none, none, []⟩,
    ⟨.extract (.l 2) 1, none, none, []⟩,
    ⟨.mv (.l 3), some 15, none, []⟩,
    ⟨.mv (.l 4), some 16, none, []⟩]) (
  .seq (
  .frz [(11, true)] (
  .reg [⟨.mv (.v 9), none, none, []⟩,
    ⟨.fieldAddr 0 (.v 12), none, none, []⟩,
    ⟨.load false 1 (.l 1), none, none, []⟩,
    ⟨.call 14 [(.l 0), (.l 2)] [(0, 0)] true, none, none, []⟩,
    ⟨.mv (.l 3), none, none, []⟩,
    ⟨.mv (.v 10), none, some ((.l 4), true), []⟩,
    ⟨.fieldAddr 1 (.v 12), none, some ((.l 4), true), []⟩,
    ⟨.load false 1 (.l 6), none, some ((.l 4), true), []⟩,
    ⟨.bin .eql false (.l 5) (.l 7), none, some ((.l 4), true), []⟩,
    ⟨.pick (.l 4) (.l 8) (.c (.bool false)), none, none, []⟩,
    ⟨.mv (.l 9), none, none, []⟩,
    ⟨.mv (.v 11), none, some ((.l 10), true), []⟩,
    ⟨.fieldAddr 2 (.v 12), none, some ((.l 10), true), []⟩,
    ⟨.load false 1 (.l 12), none, some ((.l 10), true), []⟩,
    ⟨.bin .eql false (.l 11) (.l 13), none, some ((.l 10), true), []⟩,
    ⟨.pick (.l 10) (.l 14) (.c (.bool false)), none, none, []⟩,
    ⟨.mv (.l 15), none, none, []⟩,
    ⟨.mv (.v 13), none, some ((.l 16), true), []⟩,
    ⟨.mv (.v 15), none, some ((.l 16), true), []⟩,
    ⟨.bin .eql false (.l 17) (.l 18), none, some ((.l 16), true), []⟩,
    ⟨.pick (.l 16) (.l 19) (.c (.bool false)), none, none, []⟩,
    ⟨.mv (.l 20), none, none, []⟩,
    ⟨.mv (.v 14), none, some ((.l 21), true), []⟩,
    ⟨.mv (.v 16), none, some ((.l 21), true), []⟩,
    ⟨.bin .eql true (.l 22) (.l 23), none, some ((.l 21), true), []⟩,
    ⟨.pick (.l 21) (.l 24) (.c (.bool false)), none, none, []⟩,
    ⟨.mv (.l 25), none, none, []⟩,
    ⟨.mv (.v 6), none, some ((.l 26), true), []⟩,
    ⟨.call 15 [(.l 27)] [(0, 0)] true, none, some ((.l 26), true), []⟩,
    ⟨.mv (.v 6), none, some ((.l 26), true), []⟩,
    ⟨.call 16 [(.l 29)] [(0, 0)] true, none, some ((.l 26), true), []⟩,
    ⟨.bin .eql false (.l 28) (.l 30), none, some ((.l 26), true), []⟩,
    ⟨.pick (.l 26) (.l 31) (.c (.bool false)), none, none, []⟩,
    ⟨.mv (.l 32), none, none, []⟩,
    ⟨.mv (.v 6), none, some ((.l 33), true), []⟩,
    ⟨.call 18 [(.l 34)] [(8, 1)] true, none, some ((.l 33), true), []⟩,
    ⟨.mv (.v 6), none, some ((.l 33), true), []⟩,
    ⟨.call 19 [(.l 36)] [(9, 1)] true, none, some ((.l 33), true), []⟩,
    ⟨.call 17 [(.l 35), (.l 37)] [(0, 0)] true, none, some ((.l 33), true), []⟩,
    ⟨.pick (.l 33) (.l 38) (.c (.bool false)), none, none, []⟩,
    ⟨.mv (.l 39), none, none, []⟩,
    ⟨.mv (.v 5), none, some ((.l 40), true), []⟩,
    ⟨.pick (.l 40) (.l 41) (.c (.bool false)), none, none, []⟩,
    ⟨.mv (.l 42), some 4, none, []⟩])) (
  .ret))))))))))⟩

theorem c3 : compFn Try.prog 3 = some { X3 with body := strip X3.body } := by kernel_rfl
end Go.Proofs.Ytnlapjkfbodbkaa.L
