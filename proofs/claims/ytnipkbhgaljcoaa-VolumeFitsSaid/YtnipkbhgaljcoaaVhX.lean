/-
  Chapter 23: the laws' functions as the plain machine has them (printed by xfn.py; arrays frozen at two places).
-/
import Derived.Test.YtnipkbhgaljcoaaVgA
import Derived.Test.YtnipkbhgaljcoaaVaA
namespace Go.Proofs.Ytnipkbhgaljcoaa.V
set_option linter.unusedSimpArgs false
set_option linter.unusedVariables false
set_option linter.unusedSectionVars false
open Go.Proofs.Ytnipkbhgaljcoaa.Am
def X4 : XFn :=
 ⟨128, [0, 1, 2, 4, 5, 6, 7, 8, 9, 10, 11, 12, 22, 34, 50, 81, 85, 91, 103, 114], 8, [(3, none)],
  .seq (
  .reg [⟨.box 0 (.v 0), some 2, none, []⟩,
    ⟨.mv (.c (.bool false)), some 3, none, []⟩]) (
  .seq (
  .reg [⟨.call 7 [] [(0, 0)] true, none, none, []⟩,
    ⟨.mv (.l 0), some 4, none, []⟩]) (
  .seq (
  .reg [⟨.load true 4 (.v 2), none, none, []⟩,
    ⟨.call 8 [(.l 0)] [(1, 1), (2, 1), (0, 0)] true, none, none, []⟩,
    ⟨.mkarr 3 1 [] [], none, none, []⟩,
    ⟨.alloc 4 [.nils, .nils, (.int .i64 0)], some 5, none, []⟩,
    ⟨.store 3 (.l 3) (.l 1), none, none, []⟩,
    ⟨.mv (.l 2), some 6, none, []⟩]) (
  .seq (
  .reg [⟨.fieldAddr 1 (.v 5), none, none, []⟩,
    ⟨.load false 1 (.l 0), none, none, []⟩,
    ⟨.len false (.l 1), none, none, []⟩,
    ⟨.mv (.l 2), some 7, none, []⟩]) (
  .seq (
  .seq (
  .reg [⟨.mv (.c (.int .i64 1)), some 8, none, []⟩]) (
  .block 0 (
   .loopS [1, 4, 5, 6, 7, 8] 8 (
    .seq (
    .seq (
    .reg [⟨.mv (.v 8), none, none, []⟩,
      ⟨.mv (.v 7), none, none, []⟩,
      ⟨.bin .leq false (.l 0) (.l 1), some 12, none, []⟩]) (
    .cond (.v 12) (
     .skip) (
     .exit 0))) (
    .seq (
    .block 1 (
     .seq (
     .reg [⟨.mv (.v 8), none, none, []⟩,
       ⟨.mv (.v 7), none, none, []⟩,
       ⟨.bin .eql false (.l 0) (.l 1), none, none, []⟩,
       ⟨.mv (.l 2), none, none, []⟩,
       ⟨.mv (.v 1), none, some ((.l 3), false), []⟩,
       ⟨.mv (.v 8), none, some ((.l 3), false), []⟩,
       ⟨.bin .shr false (.l 4) (.l 5), none, some ((.l 3), false), []⟩,
       ⟨.bin .and false (.l 6) (.c (.int .u16 1)), none, some ((.l 3), false), []⟩,
       ⟨.bin .eql false (.l 7) (.c (.int .u16 1)), none, some ((.l 3), false), []⟩,
       ⟨.pick (.l 3) (.c (.bool true)) (.l 8), some 13, none, []⟩]) (
     .cond (.v 13) (
      .reg [⟨.mv (.v 6), none, none, []⟩,
        ⟨.mv (.v 8), none, none, []⟩,
        ⟨.mkarr 5 1 [(.int .i64 0)] [(0, (.l 1))], none, none, []⟩,
        ⟨.append 6 1 8 1 (.l 0) (.l 2), none, none, []⟩,
        ⟨.mv (.l 3), some 6, none, []⟩]) (
      .skip)))) (
    .reg [⟨.mv (.v 8), none, none, []⟩,
      ⟨.bin .add false (.l 0) (.c (.int .i64 1)), none, none, []⟩,
      ⟨.mv (.l 1), some 8, none, []⟩])))))) (
  .seq (
  .reg [⟨.fieldAddr 0 (.v 5), none, none, []⟩,
    ⟨.load false 1 (.l 0), none, none, []⟩,
    ⟨.fieldAddr 1 (.v 5), none, none, []⟩,
    ⟨.load false 1 (.l 2), none, none, []⟩,
    ⟨.fieldAddr 2 (.v 5), none, none, []⟩,
    ⟨.load false 1 (.l 4), none, none, []⟩,
    ⟨.call 12 [(.l 1), (.l 3), (.l 5)] [(7, 1), (0, 0)] true, none, none, []⟩,
    ⟨.mv (.l 6), none, none, []⟩,
    ⟨.extract (.l 7) 0, none, none, []⟩,
    ⟨.extract (.l 7) 1, none, none, []⟩,
    ⟨.mv (.l 8), some 9, none, []⟩,
    ⟨.mv (.l 9), some 10, none, []⟩]) (
  .seq (
  .seq (
  .reg [⟨.mv (.v 10), none, none, []⟩,
    ⟨.bin .neq false (.l 0) (.c (.int .i64 0)), some 14, none, []⟩]) (
  .cond (.v 14) (
   .seq (
   .reg [⟨.mv (.v 10), none, none, []⟩,
     ⟨.bin .eql false (.l 0) (.c (.int .i64 230)), none, none, []⟩,
     ⟨.mv (.l 1), none, none, []⟩,
     ⟨.mv (.v 9), none, some ((.l 2), true), []⟩,
     ⟨.len false (.l 3), none, some ((.l 2), true), []⟩,
     ⟨.bin .eql false (.l 4) (.c (.int .i64 0)), none, some ((.l 2), true), []⟩,
     ⟨.pick (.l 2) (.l 5) (.c (.bool false)), none, none, []⟩,
     ⟨.mv (.l 6), none, none, []⟩,
     ⟨.load true 3 (.v 5), none, some ((.l 7), true), []⟩,
     ⟨.mv (.v 6), none, some ((.l 7), true), []⟩,
     ⟨.call 11 [(.l 8), (.l 9)] [(0, 0)] true, none, some ((.l 7), true), []⟩,
     ⟨.un .not (.l 10), none, some ((.l 7), true), []⟩,
     ⟨.pick (.l 7) (.l 11) (.c (.bool false)), none, none, []⟩,
     ⟨.mv (.l 12), none, none, []⟩,
     ⟨.mv (.v 4), none, some ((.l 13), true), []⟩,
     ⟨.pick (.l 13) (.l 14) (.c (.bool false)), none, none, []⟩,
     ⟨.mv (.l 15), some 3, none, []⟩]) (
   .ret)) (
   .skip))) (
  .seq (
  .seq (
  .reg [⟨.load true 3 (.v 5), none, none, []⟩,
    ⟨.mv (.v 9), none, none, []⟩,
    ⟨.call 11 [(.l 0), (.l 1)] [(0, 0)] true, none, none, []⟩,
    ⟨.un .not (.l 2), none, none, []⟩,
    ⟨.mv (.l 3), none, none, []⟩,
    ⟨.fieldAddr 0 (.v 5), none, some ((.l 4), false), []⟩,
    ⟨.load false 1 (.l 5), none, some ((.l 4), false), []⟩,
    ⟨.fieldAddr 1 (.v 5), none, some ((.l 4), false), []⟩,
    ⟨.load false 1 (.l 7), none, some ((.l 4), false), []⟩,
    ⟨.mv (.v 9), none, some ((.l 4), false), []⟩,
    ⟨.fieldAddr 2 (.v 5), none, some ((.l 4), false), []⟩,
    ⟨.load false 1 (.l 10), none, some ((.l 4), false), []⟩,
    ⟨.call 10 [(.l 6), (.l 8), (.l 9), (.l 11)] [(0, 0)] true, none, some ((.l 4), false), []⟩,
    ⟨.un .not (.l 12), none, some ((.l 4), false), []⟩,
    ⟨.pick (.l 4) (.c (.bool true)) (.l 13), some 15, none, []⟩]) (
  .cond (.v 15) (
   .seq (
   .reg [⟨.mv (.c (.bool false)), some 3, none, []⟩]) (
   .ret)) (
   .skip))) (
  .seq (
  .seq (
  .reg [⟨.load true 3 (.v 5), none, none, []⟩,
    ⟨.mv (.v 6), none, none, []⟩,
    ⟨.call 11 [(.l 0), (.l 1)] [(0, 0)] true, none, none, []⟩,
    ⟨.un .not (.l 2), some 16, none, []⟩]) (
  .cond (.v 16) (
   .seq (
   .reg [⟨.mv (.v 4), none, none, []⟩,
     ⟨.mv (.l 0), some 3, none, []⟩]) (
   .ret)) (
   .skip))) (
  .seq (
  .seq (
  .reg [⟨.mv (.v 9), none, none, []⟩,
    ⟨.len false (.l 0), none, none, []⟩,
    ⟨.mv (.v 6), none, none, []⟩,
    ⟨.len false (.l 2), none, none, []⟩,
    ⟨.bin .neq false (.l 1) (.l 3), some 17, none, []⟩]) (
  .cond (.v 17) (
   .seq (
   .reg [⟨.mv (.v 9), none, none, []⟩,
     ⟨.len false (.l 0), none, none, []⟩,
     ⟨.mv (.v 6), none, none, []⟩,
     ⟨.len false (.l 2), none, none, []⟩,
     ⟨.bin .lss false (.l 1) (.l 3), none, none, []⟩,
     ⟨.mv (.l 4), none, none, []⟩,
     ⟨.mv (.v 4), none, some ((.l 5), true), []⟩,
     ⟨.pick (.l 5) (.l 6) (.c (.bool false)), none, none, []⟩,
     ⟨.mv (.l 7), some 3, none, []⟩]) (
   .ret)) (
   .skip))) (
  .seq (
  .seq (
  .reg [⟨.mv (.c (.int .i64 0)), some 11, none, []⟩]) (
  .block 2 (
   .loopS [4, 6, 9, 11] 8 (
    .seq (
    .seq (
    .reg [⟨.mv (.v 11), none, none, []⟩,
      ⟨.mv (.v 9), none, none, []⟩,
      ⟨.len false (.l 1), none, none, []⟩,
      ⟨.bin .lss false (.l 0) (.l 2), some 18, none, []⟩]) (
    .cond (.v 18) (
     .skip) (
     .exit 2))) (
    .seq (
    .block 3 (
     .seq (
     .reg [⟨.mv (.v 9), none, none, []⟩,
       ⟨.mv (.v 11), none, none, []⟩,
       ⟨.indexAddr 1 (.l 0) (.l 1), none, none, []⟩,
       ⟨.load false 1 (.l 2), none, none, []⟩,
       ⟨.mv (.v 6), none, none, []⟩,
       ⟨.mv (.v 11), none, none, []⟩,
       ⟨.indexAddr 1 (.l 4) (.l 5), none, none, []⟩,
       ⟨.load false 1 (.l 6), none, none, []⟩,
       ⟨.bin .neq false (.l 3) (.l 7), some 19, none, []⟩]) (
     .cond (.v 19) (
      .seq (
      .reg [⟨.mv (.v 9), none, none, []⟩,
        ⟨.mv (.v 11), none, none, []⟩,
        ⟨.indexAddr 1 (.l 0) (.l 1), none, none, []⟩,
        ⟨.load false 1 (.l 2), none, none, []⟩,
        ⟨.mv (.v 6), none, none, []⟩,
        ⟨.mv (.v 11), none, none, []⟩,
        ⟨.indexAddr 1 (.l 4) (.l 5), none, none, []⟩,
        ⟨.load false 1 (.l 6), none, none, []⟩,
        ⟨.bin .gtr false (.l 3) (.l 7), none, none, []⟩,
        ⟨.mv (.l 8), none, none, []⟩,
        ⟨.mv (.v 4), none, some ((.l 9), true), []⟩,
        ⟨.pick (.l 9) (.l 10) (.c (.bool false)), none, none, []⟩,
        ⟨.mv (.l 11), some 3, none, []⟩]) (
      .ret)) (
      .skip)))) (
    .reg [⟨.mv (.v 11), none, none, []⟩,
      ⟨.bin .add false (.l 0) (.c (.int .i64 1)), none, none, []⟩,
      ⟨.mv (.l 1), some 11, none, []⟩])))))) (
  .seq (
  .reg [⟨.mv (.v 4), none, none, []⟩,
    ⟨.mv (.l 0), some 3, none, []⟩]) (
  .ret))))))))))))⟩

def X5 : XFn :=
 ⟨103, [0, 1, 2, 3, 6, 7, 8, 9, 10, 11, 12, 13, 14, 15, 36], 9, [(4, none)],
  .seq (
  .reg [⟨.box 0 (.v 0), some 3, none, []⟩,
    ⟨.mv (.c (.bool false)), some 4, none, []⟩]) (
  .seq (
  .reg [⟨.call 7 [] [(0, 0)] true, none, none, []⟩,
    ⟨.mv (.l 0), some 5, none, []⟩]) (
  .seq (
  .reg [⟨.load true 4 (.v 3), none, none, []⟩,
    ⟨.call 8 [(.l 0)] [(1, 1), (2, 1), (0, 0)] true, none, none, []⟩,
    ⟨.alloc 3 [.nils, .nils, (.int .i64 0)], some 6, none, []⟩,
    ⟨.store 3 (.l 2) (.l 1), none, none, []⟩]) (
  .seq (
  .reg [⟨.fieldAddr 0 (.v 6), none, none, []⟩,
    ⟨.load false 1 (.l 0), none, none, []⟩,
    ⟨.fieldAddr 1 (.v 6), none, none, []⟩,
    ⟨.load false 1 (.l 2), none, none, []⟩,
    ⟨.fieldAddr 2 (.v 6), none, none, []⟩,
    ⟨.load false 1 (.l 4), none, none, []⟩,
    ⟨.call 12 [(.l 1), (.l 3), (.l 5)] [(4, 1), (0, 0)] true, none, none, []⟩,
    ⟨.mv (.l 6), none, none, []⟩,
    ⟨.extract (.l 7) 0, none, none, []⟩,
    ⟨.extract (.l 7) 1, none, none, []⟩,
    ⟨.mv (.l 8), some 7, none, []⟩,
    ⟨.mv (.l 9), some 8, none, []⟩]) (
  .seq (
  .seq (
  .reg [⟨.mv (.v 8), none, none, []⟩,
    ⟨.bin .neq false (.l 0) (.c (.int .i64 0)), none, none, []⟩,
    ⟨.mv (.l 1), none, none, []⟩,
    ⟨.fieldAddr 1 (.v 6), none, some ((.l 2), false), []⟩,
    ⟨.load false 1 (.l 3), none, some ((.l 2), false), []⟩,
    ⟨.len false (.l 4), none, some ((.l 2), false), []⟩,
    ⟨.bin .eql false (.l 5) (.c (.int .i64 0)), none, some ((.l 2), false), []⟩,
    ⟨.pick (.l 2) (.c (.bool true)) (.l 6), some 14, none, []⟩]) (
  .cond (.v 14) (
   .seq (
   .reg [⟨.mv (.v 8), none, none, []⟩,
     ⟨.bin .eql false (.l 0) (.c (.int .i64 0)), none, none, []⟩,
     ⟨.mv (.l 1), none, none, []⟩,
     ⟨.mv (.v 8), none, some ((.l 2), false), []⟩,
     ⟨.bin .eql false (.l 3) (.c (.int .i64 230)), none, some ((.l 2), false), []⟩,
     ⟨.pick (.l 2) (.c (.bool true)) (.l 4), none, none, []⟩,
     ⟨.mv (.l 5), none, none, []⟩,
     ⟨.mv (.v 5), none, some ((.l 6), true), []⟩,
     ⟨.pick (.l 6) (.l 7) (.c (.bool false)), none, none, []⟩,
     ⟨.mv (.l 8), some 4, none, []⟩]) (
   .ret)) (
   .skip))) (
  .seq (
  .reg [⟨.fieldAddr 0 (.v 6), none, none, []⟩,
    ⟨.load false 1 (.l 0), none, none, []⟩,
    ⟨.fieldAddr 1 (.v 6), none, none, []⟩,
    ⟨.load false 1 (.l 2), none, none, []⟩,
    ⟨.fieldAddr 2 (.v 6), none, none, []⟩,
    ⟨.load false 1 (.l 4), none, none, []⟩,
    ⟨.mv (.v 1), none, none, []⟩,
    ⟨.bin .rem false (.l 6) (.c (.int .u8 5)), none, none, []⟩,
    ⟨.conv .i64 (.l 7), none, none, []⟩,
    ⟨.bin .add false (.l 5) (.l 8), none, none, []⟩,
    ⟨.call 12 [(.l 1), (.l 3), (.l 9)] [(5, 1), (0, 0)] true, none, none, []⟩,
    ⟨.mv (.l 10), none, none, []⟩,
    ⟨.extract (.l 11) 0, none, none, []⟩,
    ⟨.extract (.l 11) 1, none, none, []⟩,
    ⟨.mv (.l 12), some 9, none, []⟩,
    ⟨.mv (.l 13), some 10, none, []⟩]) (
  .seq (
  .reg [⟨.mkarr 6 1 [] [], none, none, []⟩,
    ⟨.fieldAddr 1 (.v 6), none, none, []⟩,
    ⟨.load false 1 (.l 1), none, none, []⟩,
    ⟨.append 6 1 1 2 (.l 0) (.l 2), none, none, []⟩,
    ⟨.mv (.l 3), some 11, none, []⟩]) (
  .seq (
  .reg [⟨.mv (.v 11), none, none, []⟩,
    ⟨.mv (.v 2), none, none, []⟩,
    ⟨.conv .i64 (.l 1), none, none, []⟩,
    ⟨.mv (.v 11), none, none, []⟩,
    ⟨.len false (.l 3), none, none, []⟩,
    ⟨.bin .rem false (.l 2) (.l 4), none, none, []⟩,
    ⟨.indexAddr 1 (.l 0) (.l 5), none, none, []⟩,
    ⟨.store 1 (.l 6) (.c (.bool true)), none, none, []⟩]) (
  .seq (
  .reg [⟨.fieldAddr 0 (.v 6), none, none, []⟩,
    ⟨.load false 1 (.l 0), none, none, []⟩,
    ⟨.mv (.v 11), none, none, []⟩,
    ⟨.fieldAddr 2 (.v 6), none, none, []⟩,
    ⟨.load false 1 (.l 3), none, none, []⟩,
    ⟨.call 12 [(.l 1), (.l 2), (.l 4)] [(8, 1), (0, 0)] true, none, none, []⟩,
    ⟨.mv (.l 5), none, none, []⟩,
    ⟨.extract (.l 6) 0, none, none, []⟩,
    ⟨.extract (.l 6) 1, none, none, []⟩,
    ⟨.mv (.l 7), some 12, none, []⟩,
    ⟨.mv (.l 8), some 13, none, []⟩]) (
  .seq (
  .reg [⟨.mv (.v 10), none, none, []⟩,
    ⟨.bin .eql false (.l 0) (.c (.int .i64 0)), none, none, []⟩,
    ⟨.mv (.l 1), none, none, []⟩,
    ⟨.mv (.v 9), none, some ((.l 2), true), []⟩,
    ⟨.len false (.l 3), none, some ((.l 2), true), []⟩,
    ⟨.mv (.v 7), none, some ((.l 2), true), []⟩,
    ⟨.len false (.l 5), none, some ((.l 2), true), []⟩,
    ⟨.bin .leq false (.l 4) (.l 6), none, some ((.l 2), true), []⟩,
    ⟨.pick (.l 2) (.l 7) (.c (.bool false)), none, none, []⟩,
    ⟨.mv (.l 8), none, none, []⟩,
    ⟨.mv (.v 13), none, some ((.l 9), true), []⟩,
    ⟨.bin .eql false (.l 10) (.c (.int .i64 0)), none, some ((.l 9), true), []⟩,
    ⟨.pick (.l 9) (.l 11) (.c (.bool false)), none, none, []⟩,
    ⟨.mv (.l 12), none, none, []⟩,
    ⟨.mv (.v 12), none, some ((.l 13), true), []⟩,
    ⟨.len false (.l 14), none, some ((.l 13), true), []⟩,
    ⟨.mv (.v 7), none, some ((.l 13), true), []⟩,
    ⟨.len false (.l 16), none, some ((.l 13), true), []⟩,
    ⟨.bin .leq false (.l 15) (.l 17), none, some ((.l 13), true), []⟩,
    ⟨.pick (.l 13) (.l 18) (.c (.bool false)), none, none, []⟩,
    ⟨.mv (.l 19), none, none, []⟩,
    ⟨.mv (.v 5), none, some ((.l 20), true), []⟩,
    ⟨.pick (.l 20) (.l 21) (.c (.bool false)), none, none, []⟩,
    ⟨.mv (.l 22), some 4, none, []⟩]) (
  .ret))))))))))⟩

def X3 : XFn :=
 ⟨136, [0, 1, 2, 3, 5, 6, 7, 8, 9, 10, 11, 12, 14, 26, 41, 58, 76, 83], 17, [(5, none)],
  .seq (
  .reg [⟨.box 0 (.v 0), some 3, none, []⟩,
    ⟨.box 1 (.v 2), some 4, none, []⟩,
    ⟨.mv (.c (.bool false)), some 5, none, []⟩]) (
  .seq (
  .reg [⟨.call 7 [] [(0, 0)] true, none, none, []⟩,
    ⟨.mv (.l 0), some 6, none, []⟩]) (
  .seq (
  .reg [⟨.load true 4 (.v 3), none, none, []⟩,
    ⟨.call 8 [(.l 0)] [(2, 1), (3, 1), (0, 0)] true, none, none, []⟩,
    ⟨.mkarr 4 1 [] [], none, none, []⟩,
    ⟨.alloc 5 [.nils, .nils, (.int .i64 0)], some 7, none, []⟩,
    ⟨.store 3 (.l 3) (.l 1), none, none, []⟩,
    ⟨.mv (.l 2), some 8, none, []⟩]) (
  .seq (
  .seq (
  .reg [⟨.mv (.c (.int .i64 0)), some 9, none, []⟩]) (
  .block 0 (
   .loopS [1, 4, 6, 7, 8, 9] 17 (
    .seq (
    .seq (
    .reg [⟨.mv (.v 9), none, none, []⟩,
      ⟨.mv (.v 1), none, none, []⟩,
      ⟨.len false (.l 1), none, none, []⟩,
      ⟨.bin .lss false (.l 0) (.l 2), none, none, []⟩,
      ⟨.mv (.l 3), none, none, []⟩,
      ⟨.mv (.v 9), none, some ((.l 4), true), []⟩,
      ⟨.bin .lss false (.l 5) (.c (.int .i64 10)), none, some ((.l 4), true), []⟩,
      ⟨.pick (.l 4) (.l 6) (.c (.bool false)), some 13, none, []⟩]) (
    .cond (.v 13) (
     .skip) (
     .exit 0))) (
    .seq (
    .block 1 (
     .reg [⟨.mv (.v 8), none, none, []⟩,
       ⟨.mv (.v 1), none, none, []⟩,
       ⟨.mv (.v 9), none, none, []⟩,
       ⟨.indexAddr 1 (.l 1) (.l 2), none, none, []⟩,
       ⟨.load false 1 (.l 3), none, none, []⟩,
       ⟨.bin .rem false (.l 4) (.c (.int .i8 11)), none, none, []⟩,
       ⟨.conv .i64 (.l 5), none, none, []⟩,
       ⟨.mkarr 6 1 [(.int .i64 0)] [(0, (.l 6))], none, none, []⟩,
       ⟨.append 7 1 8 1 (.l 0) (.l 7), none, none, []⟩,
       ⟨.mv (.l 8), some 8, none, []⟩])) (
    .reg [⟨.mv (.v 9), none, none, []⟩,
      ⟨.bin .add false (.l 0) (.c (.int .i64 1)), none, none, []⟩,
      ⟨.mv (.l 1), some 9, none, []⟩])))))) (
  .seq (
  .seq (
  .reg [⟨.indexAddrA 3 1 (.v 4) (.c (.int .i64 0)), none, none, []⟩,
    ⟨.load false 1 (.l 0), none, none, []⟩,
    ⟨.bin .rem false (.l 1) (.c (.int .u8 4)), none, none, []⟩,
    ⟨.bin .eql false (.l 2) (.c (.int .u8 1)), some 14, none, []⟩]) (
  .cond (.v 14) (
   .reg [⟨.load true 3 (.v 7), none, none, []⟩,
     ⟨.call 9 [(.l 0)] [(8, 1), (0, 0)] true, none, none, []⟩,
     ⟨.mv (.l 1), none, none, []⟩,
     ⟨.extract (.l 2) 0, none, none, []⟩,
     ⟨.extract (.l 2) 1, none, none, []⟩,
     ⟨.mv (.l 3), some 8, none, []⟩]) (
   .skip))) (
  .seq (
  .seq (
  .reg [⟨.fieldAddr 0 (.v 7), none, none, []⟩,
    ⟨.load false 1 (.l 0), none, none, []⟩,
    ⟨.fieldAddr 1 (.v 7), none, none, []⟩,
    ⟨.load false 1 (.l 2), none, none, []⟩,
    ⟨.mv (.v 8), none, none, []⟩,
    ⟨.fieldAddr 2 (.v 7), none, none, []⟩,
    ⟨.load false 1 (.l 5), none, none, []⟩,
    ⟨.call 10 [(.l 1), (.l 3), (.l 4), (.l 6)] [(0, 0)] false, none, none, []⟩,
    ⟨.load true 3 (.v 7), none, none, []⟩,
    ⟨.mv (.v 8), none, none, []⟩,
    ⟨.call 11 [(.l 8), (.l 9)] [(0, 0)] false, none, none, []⟩,
    ⟨.bin .neq true (.l 7) (.l 10), some 15, none, []⟩]) (
  .cond (.v 15) (
   .seq (
   .reg [⟨.mv (.c (.bool false)), some 5, none, []⟩]) (
   .ret)) (
   .skip))) (
  .seq (
  .reg [⟨.fieldAddr 1 (.v 7), none, none, []⟩,
    ⟨.load false 1 (.l 0), none, none, []⟩,
    ⟨.len false (.l 1), none, none, []⟩,
    ⟨.mv (.l 2), some 10, none, []⟩]) (
  .seq (
  .frz [(20, false)] (
  .reg [⟨.mkarr 9 1 [] [], none, none, [11, 13]⟩,
    ⟨.fieldAddr 0 (.v 7), none, none, [9, 11, 13]⟩,
    ⟨.load false 1 (.l 1), none, none, [9, 11, 13]⟩,
    ⟨.append 9 1 24 2 (.l 0) (.l 2), none, none, [11, 13]⟩,
    ⟨.mkarr 11 1 [] [], none, none, [9, 9, 13]⟩,
    ⟨.fieldAddr 1 (.v 7), none, none, [9, 9, 11, 13]⟩,
    ⟨.load false 1 (.l 5), none, none, [9, 9, 11, 13]⟩,
    ⟨.append 11 1 1 2 (.l 4) (.l 6), none, none, [13]⟩,
    ⟨.fieldAddr 2 (.v 7), none, none, [9, 9, 11, 11, 13]⟩,
    ⟨.load false 1 (.l 8), none, none, [9, 9, 11, 11, 13]⟩,
    ⟨.build [.nils, .nils, (.int .i64 0)] [(0, 1, (.l 3)), (1, 1, (.l 7)), (2, 1, (.l 9))], none, none, [13]⟩,
    ⟨.alloc 13 [.nils, .nils, (.int .i64 0)], some 11, none, [9, 9, 11, 11]⟩,
    ⟨.store 3 (.l 11) (.l 10), none, none, []⟩])) (
  .seq (
  .seq (
  .reg [⟨.indexAddrA 3 1 (.v 4) (.c (.int .i64 1)), none, none, []⟩,
    ⟨.load false 1 (.l 0), none, none, []⟩,
    ⟨.bin .rem false (.l 1) (.c (.int .u8 3)), none, none, []⟩,
    ⟨.bin .eql false (.l 2) (.c (.int .u8 0)), some 16, none, []⟩]) (
  .cond (.v 16) (
   .reg [⟨.fieldAddr 1 (.v 11), none, none, []⟩,
     ⟨.load false 1 (.l 0), none, none, []⟩,
     ⟨.mkarr 14 1 [(.bool false)] [(0, (.c (.bool true)))], none, none, []⟩,
     ⟨.append 15 1 1 1 (.l 1) (.l 2), none, none, []⟩,
     ⟨.fieldAddr 1 (.v 11), none, none, []⟩,
     ⟨.store 1 (.l 4) (.l 3), none, none, []⟩]) (
   .seq (
   .reg [⟨.mv (.v 10), none, none, []⟩,
     ⟨.bin .gtr false (.l 0) (.c (.int .i64 0)), some 17, none, []⟩]) (
   .cond (.v 17) (
    .reg [⟨.fieldAddr 0 (.v 11), none, none, []⟩,
      ⟨.load false 1 (.l 0), none, none, []⟩,
      ⟨.indexAddrA 3 1 (.v 4) (.c (.int .i64 2)), none, none, []⟩,
      ⟨.load false 1 (.l 2), none, none, []⟩,
      ⟨.conv .i64 (.l 3), none, none, []⟩,
      ⟨.mv (.v 10), none, none, []⟩,
      ⟨.bin .rem false (.l 4) (.l 5), none, none, []⟩,
      ⟨.fieldAddr 0 (.v 11), none, none, []⟩,
      ⟨.load false 1 (.l 7), none, none, []⟩,
      ⟨.indexAddrA 3 1 (.v 4) (.c (.int .i64 2)), none, none, []⟩,
      ⟨.load false 1 (.l 9), none, none, []⟩,
      ⟨.conv .i64 (.l 10), none, none, []⟩,
      ⟨.mv (.v 10), none, none, []⟩,
      ⟨.bin .rem false (.l 11) (.l 12), none, none, []⟩,
      ⟨.indexAddr 1 (.l 8) (.l 13), none, none, []⟩,
      ⟨.load false 1 (.l 14), none, none, []⟩,
      ⟨.mv (.v 10), none, none, []⟩,
      ⟨.slice false 1 (.l 15) none (some (.l 16)) none, none, none, []⟩,
      ⟨.indexAddr 1 (.l 1) (.l 6), none, none, []⟩,
      ⟨.store 1 (.l 18) (.l 17), none, none, []⟩]) (
    .skip))))) (
  .seq (
  .reg [⟨.fieldAddr 0 (.v 11), none, none, []⟩,
    ⟨.load false 1 (.l 0), none, none, []⟩,
    ⟨.fieldAddr 1 (.v 11), none, none, []⟩,
    ⟨.load false 1 (.l 2), none, none, []⟩,
    ⟨.fieldAddr 2 (.v 11), none, none, []⟩,
    ⟨.load false 1 (.l 4), none, none, []⟩,
    ⟨.call 12 [(.l 1), (.l 3), (.l 5)] [(16, 1), (0, 0)] true, none, none, []⟩,
    ⟨.mv (.l 6), none, none, []⟩,
    ⟨.extract (.l 7) 0, none, none, []⟩,
    ⟨.extract (.l 7) 1, none, none, []⟩,
    ⟨.mv (.l 8), none, none, []⟩,
    ⟨.mv (.l 9), some 12, none, []⟩]) (
  .seq (
  .reg [⟨.fieldAddr 0 (.v 11), none, none, []⟩,
    ⟨.load false 1 (.l 0), none, none, []⟩,
    ⟨.fieldAddr 1 (.v 11), none, none, []⟩,
    ⟨.load false 1 (.l 2), none, none, []⟩,
    ⟨.mv (.v 8), none, none, []⟩,
    ⟨.fieldAddr 2 (.v 11), none, none, []⟩,
    ⟨.load false 1 (.l 5), none, none, []⟩,
    ⟨.call 10 [(.l 1), (.l 3), (.l 4), (.l 6)] [(0, 0)] false, none, none, []⟩,
    ⟨.load true 3 (.v 11), none, none, []⟩,
    ⟨.mv (.v 8), none, none, []⟩,
    ⟨.call 11 [(.l 8), (.l 9)] [(0, 0)] false, none, none, []⟩,
    ⟨.bin .eql true (.l 7) (.l 10), none, none, []⟩,
    ⟨.mv (.l 11), none, none, []⟩,
    ⟨.mv (.v 12), none, some ((.l 12), true), []⟩,
    ⟨.bin .eql false (.l 13) (.c (.int .i64 1)), none, some ((.l 12), true), []⟩,
    ⟨.load true 3 (.v 11), none, some ((.l 12), true), []⟩,
    ⟨.call 13 [(.l 15)] [(0, 0)] false, none, some ((.l 12), true), []⟩,
    ⟨.un .not (.l 16), none, some ((.l 12), true), []⟩,
    ⟨.bin .eql true (.l 14) (.l 17), none, some ((.l 12), true), []⟩,
    ⟨.pick (.l 12) (.l 18) (.c (.bool false)), none, none, []⟩,
    ⟨.mv (.l 19), none, none, []⟩,
    ⟨.mv (.v 6), none, some ((.l 20), true), []⟩,
    ⟨.pick (.l 20) (.l 21) (.c (.bool false)), none, none, []⟩,
    ⟨.mv (.l 22), some 5, none, []⟩]) (
  .ret)))))))))))⟩

def X6 : XFn :=
 ⟨84, [0, 1, 2, 3, 4, 5, 6, 7, 8, 9, 10, 36, 62, 66, 82], 9, [(2, none)],
  .seq (
  .reg [⟨.box 0 (.v 0), some 1, none, []⟩,
    ⟨.mv (.c (.bool false)), some 2, none, []⟩]) (
  .seq (
  .reg [⟨.call 7 [] [(0, 0)] true, none, none, []⟩,
    ⟨.mv (.l 0), some 3, none, []⟩]) (
  .seq (
  .reg [⟨.load true 4 (.v 1), none, none, []⟩,
    ⟨.call 8 [(.l 0)] [(1, 1), (2, 1), (0, 0)] true, none, none, []⟩,
    ⟨.alloc 3 [.nils, .nils, (.int .i64 0)], some 4, none, []⟩,
    ⟨.store 3 (.l 2) (.l 1), none, none, []⟩]) (
  .seq (
  .reg [⟨.fieldAddr 0 (.v 4), none, none, []⟩,
    ⟨.load false 1 (.l 0), none, none, []⟩,
    ⟨.fieldAddr 1 (.v 4), none, none, []⟩,
    ⟨.load false 1 (.l 2), none, none, []⟩,
    ⟨.fieldAddr 2 (.v 4), none, none, []⟩,
    ⟨.load false 1 (.l 4), none, none, []⟩,
    ⟨.call 12 [(.l 1), (.l 3), (.l 5)] [(4, 1), (0, 0)] true, none, none, []⟩,
    ⟨.mv (.l 6), none, none, []⟩,
    ⟨.extract (.l 7) 0, none, none, []⟩,
    ⟨.extract (.l 7) 1, none, none, []⟩,
    ⟨.mv (.l 8), some 5, none, []⟩,
    ⟨.mv (.l 9), some 6, none, []⟩]) (
  .seq (
  .seq (
  .reg [⟨.mv (.v 6), none, none, []⟩,
    ⟨.bin .neq false (.l 0) (.c (.int .i64 0)), none, none, []⟩,
    ⟨.mv (.l 1), none, none, []⟩,
    ⟨.mv (.v 5), none, some ((.l 2), false), []⟩,
    ⟨.len false (.l 3), none, some ((.l 2), false), []⟩,
    ⟨.bin .lss false (.l 4) (.c (.int .i64 2)), none, some ((.l 2), false), []⟩,
    ⟨.pick (.l 2) (.c (.bool true)) (.l 5), none, none, []⟩,
    ⟨.mv (.l 6), none, none, []⟩,
    ⟨.load true 3 (.v 4), none, some ((.l 7), false), []⟩,
    ⟨.mv (.v 5), none, some ((.l 7), false), []⟩,
    ⟨.call 11 [(.l 8), (.l 9)] [(0, 0)] true, none, some ((.l 7), false), []⟩,
    ⟨.un .not (.l 10), none, some ((.l 7), false), []⟩,
    ⟨.pick (.l 7) (.c (.bool true)) (.l 11), some 11, none, []⟩]) (
  .cond (.v 11) (
   .seq (
   .reg [⟨.mv (.v 3), none, none, []⟩,
     ⟨.mv (.l 0), some 2, none, []⟩]) (
   .ret)) (
   .skip))) (
  .seq (
  .frz [(1, true), (2, true)] (
  .reg [⟨.load true 3 (.v 4), none, none, [7]⟩,
    ⟨.mv (.v 5), none, none, [7]⟩,
    ⟨.indexAddr 1 (.l 1) (.c (.int .i64 0)), none, none, [7]⟩,
    ⟨.load false 1 (.l 2), none, none, [7]⟩,
    ⟨.call 14 [(.l 0), (.l 3)] [(5, 1), (6, 1), (0, 0)] false, none, none, [7]⟩,
    ⟨.alloc 7 [.nils, .nils, (.int .i64 0)], some 7, none, [5, 6]⟩,
    ⟨.store 3 (.l 5) (.l 4), none, none, []⟩])) (
  .seq (
  .reg [⟨.fieldAddr 0 (.v 7), none, none, []⟩,
    ⟨.load false 1 (.l 0), none, none, []⟩,
    ⟨.fieldAddr 1 (.v 7), none, none, []⟩,
    ⟨.load false 1 (.l 2), none, none, []⟩,
    ⟨.fieldAddr 2 (.v 7), none, none, []⟩,
    ⟨.load false 1 (.l 4), none, none, []⟩,
    ⟨.call 12 [(.l 1), (.l 3), (.l 5)] [(8, 1), (0, 0)] true, none, none, []⟩,
    ⟨.mv (.l 6), none, none, []⟩,
    ⟨.extract (.l 7) 0, none, none, []⟩,
    ⟨.extract (.l 7) 1, none, none, []⟩,
    ⟨.mv (.l 8), some 8, none, []⟩,
    ⟨.mv (.l 9), some 9, none, []⟩]) (
  .seq (
  .seq (
  .reg [⟨.mv (.v 9), none, none, []⟩,
    ⟨.bin .neq false (.l 0) (.c (.int .i64 0)), none, none, []⟩,
    ⟨.mv (.l 1), none, none, []⟩,
    ⟨.mv (.v 8), none, some ((.l 2), false), []⟩,
    ⟨.len false (.l 3), none, some ((.l 2), false), []⟩,
    ⟨.mv (.v 5), none, some ((.l 2), false), []⟩,
    ⟨.len false (.l 5), none, some ((.l 2), false), []⟩,
    ⟨.bin .sub false (.l 6) (.c (.int .i64 1)), none, some ((.l 2), false), []⟩,
    ⟨.bin .neq false (.l 4) (.l 7), none, some ((.l 2), false), []⟩,
    ⟨.pick (.l 2) (.c (.bool true)) (.l 8), some 12, none, []⟩]) (
  .cond (.v 12) (
   .seq (
   .reg [⟨.mv (.c (.bool false)), some 2, none, []⟩]) (
   .ret)) (
   .skip))) (
  .seq (
  .seq (
  .reg [⟨.mv (.c (.int .i64 0)), some 10, none, []⟩]) (
  .block 0 (
   .loopS [3, 5, 8, 10] 9 (
    .seq (
    .seq (
    .reg [⟨.mv (.v 10), none, none, []⟩,
      ⟨.mv (.v 8), none, none, []⟩,
      ⟨.len false (.l 1), none, none, []⟩,
      ⟨.bin .lss false (.l 0) (.l 2), some 13, none, []⟩]) (
    .cond (.v 13) (
     .skip) (
     .exit 0))) (
    .seq (
    .block 1 (
     .seq (
     .reg [⟨.mv (.v 8), none, none, []⟩,
       ⟨.mv (.v 10), none, none, []⟩,
       ⟨.indexAddr 1 (.l 0) (.l 1), none, none, []⟩,
       ⟨.load false 1 (.l 2), none, none, []⟩,
       ⟨.mv (.v 5), none, none, []⟩,
       ⟨.indexAddr 1 (.l 4) (.c (.int .i64 0)), none, none, []⟩,
       ⟨.load false 1 (.l 5), none, none, []⟩,
       ⟨.bin .add false (.l 3) (.l 6), none, none, []⟩,
       ⟨.mv (.v 5), none, none, []⟩,
       ⟨.mv (.v 10), none, none, []⟩,
       ⟨.bin .add false (.l 9) (.c (.int .i64 1)), none, none, []⟩,
       ⟨.indexAddr 1 (.l 8) (.l 10), none, none, []⟩,
       ⟨.load false 1 (.l 11), none, none, []⟩,
       ⟨.bin .neq false (.l 7) (.l 12), some 14, none, []⟩]) (
     .cond (.v 14) (
      .seq (
      .reg [⟨.mv (.c (.bool false)), some 2, none, []⟩]) (
      .ret)) (
      .skip)))) (
    .reg [⟨.mv (.v 10), none, none, []⟩,
      ⟨.bin .add false (.l 0) (.c (.int .i64 1)), none, none, []⟩,
      ⟨.mv (.l 1), some 10, none, []⟩])))))) (
  .seq (
  .reg [⟨.mv (.v 3), none, none, []⟩,
    ⟨.mv (.l 0), some 2, none, []⟩]) (
  .ret))))))))))⟩

theorem c3 : compFn Try.prog 3 = some { X3 with body := strip X3.body } := by kernel_rfl
theorem c4 : compFn Try.prog 4 = some { X4 with body := strip X4.body } := by kernel_rfl
theorem c5 : compFn Try.prog 5 = some { X5 with body := strip X5.body } := by kernel_rfl
theorem c6 : compFn Try.prog 6 = some { X6 with body := strip X6.body } := by kernel_rfl
end Go.Proofs.Ytnipkbhgaljcoaa.V
