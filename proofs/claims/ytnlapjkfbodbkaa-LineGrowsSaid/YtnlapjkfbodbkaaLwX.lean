/-
  Chapter 18: LineFits, LineGrows, LineJoins as the plain machine has them.
-/
import Derived.Test.YtnlapjkfbodbkaaProg
import Derived.KernelRfl
import Derived.Test.YtnlapjkfbodbkaaLtP
import Derived.Test.YtnlapjkfbodbkaaLsA
namespace Go.Proofs.Ytnlapjkfbodbkaa.L
set_option linter.unusedSimpArgs false
set_option linter.unusedVariables false
set_option linter.unusedSectionVars false
open Go.Proofs.Ytnlapjkfbodbkaa.Am
def X5 : XFn :=
 ⟨117, [0, 1, 3, 4, 5, 6, 7, 8, 9, 11, 12, 13, 15, 33, 50, 72, 110], 5, [(3, none)],
  .seq (
  .reg [⟨.box 0 (.v 1), some 2, none, []⟩,
    ⟨.mv (.c (.bool false)), some 3, none, []⟩]) (
  .seq (
  .reg [⟨.call 9 [] [(0, 0)] true, none, none, []⟩,
    ⟨.mv (.l 0), some 4, none, []⟩]) (
  .seq (
  .reg [⟨.mv (.v 0), none, none, []⟩,
    ⟨.call 20 [(.l 0)] [(1, 1)] true, none, none, []⟩,
    ⟨.mv (.l 1), some 5, none, []⟩]) (
  .seq (
  .reg [⟨.load true 3 (.v 2), none, none, []⟩,
    ⟨.call 21 [(.l 0)] [(0, 0), (0, 0), (0, 0)] true, none, none, []⟩,
    ⟨.mv (.l 1), none, none, []⟩,
    ⟨.extract (.l 2) 0, none, none, []⟩,
    ⟨.extract (.l 2) 1, none, none, []⟩,
    ⟨.alloc 2 [(.int .i64 0), (.int .i64 0)], some 7, none, []⟩,
    ⟨.mv (.l 3), some 6, none, []⟩,
    ⟨.store 2 (.l 5) (.l 4), none, none, []⟩]) (
  .seq (
  .reg [⟨.mv (.v 5), none, none, []⟩,
    ⟨.mv (.v 6), none, none, []⟩,
    ⟨.load true 2 (.v 7), none, none, []⟩,
    ⟨.call 10 [(.l 0), (.l 1), (.l 2)] [(3, 1), (0, 0), (0, 0)] true, none, none, []⟩,
    ⟨.mv (.l 3), none, none, []⟩,
    ⟨.extract (.l 4) 0, none, none, []⟩,
    ⟨.extract (.l 4) 1, none, none, []⟩,
    ⟨.extract (.l 4) 2, none, none, []⟩,
    ⟨.mv (.l 5), some 8, none, []⟩,
    ⟨.mv (.l 6), none, none, []⟩,
    ⟨.mv (.l 7), some 9, none, []⟩]) (
  .seq (
  .seq (
  .reg [⟨.mv (.v 9), none, none, []⟩,
    ⟨.bin .neq false (.l 0) (.c (.int .i64 0)), some 13, none, []⟩]) (
  .cond (.v 13) (
   .seq (
   .reg [⟨.mv (.v 5), none, none, []⟩,
     ⟨.mv (.v 6), none, none, []⟩,
     ⟨.indexAddrA 2 1 (.v 7) (.c (.int .i64 0)), none, none, []⟩,
     ⟨.load false 1 (.l 2), none, none, []⟩,
     ⟨.indexAddrA 2 1 (.v 7) (.c (.int .i64 1)), none, none, []⟩,
     ⟨.load false 1 (.l 4), none, none, []⟩,
     ⟨.minmax true [(.l 3), (.l 5)], none, none, []⟩,
     ⟨.bin .sub false (.l 1) (.l 6), none, none, []⟩,
     ⟨.call 22 [(.l 0), (.l 7)] [(0, 0)] true, none, none, []⟩,
     ⟨.bin .geq false (.l 8) (.c (.int .i64 0)), none, none, []⟩,
     ⟨.mv (.l 9), none, none, []⟩,
     ⟨.mv (.v 4), none, some ((.l 10), true), []⟩,
     ⟨.pick (.l 10) (.l 11) (.c (.bool false)), none, none, []⟩,
     ⟨.mv (.l 12), some 3, none, []⟩]) (
   .ret)) (
   .skip))) (
  .frz [(3, true)] (
  .seq (
  .seq (
  .reg [⟨.mv (.c (.int .i64 0)), some 10, none, []⟩]) (
  .block 0 (
   .loopS [4, 6, 7, 8, 10] 5 (
    .seq (
    .seq (
    .reg [⟨.mv (.v 10), none, none, []⟩,
      ⟨.mv (.v 8), none, none, []⟩,
      ⟨.len false (.l 1), none, none, []⟩,
      ⟨.bin .lss false (.l 0) (.l 2), some 14, none, []⟩]) (
    .cond (.v 14) (
     .skip) (
     .exit 0))) (
    .seq (
    .block 1 (
     .seq (
     .reg [⟨.mv (.v 10), none, none, []⟩,
       ⟨.minmax false [(.l 0), (.c (.int .i64 1))], none, none, []⟩,
       ⟨.indexAddrA 2 1 (.v 7) (.l 1), none, none, []⟩,
       ⟨.load false 1 (.l 2), none, none, []⟩,
       ⟨.mv (.l 3), some 11, none, []⟩]) (
     .seq (
     .seq (
     .reg [⟨.mv (.v 8), none, none, []⟩,
       ⟨.mv (.v 10), none, none, []⟩,
       ⟨.indexAddr 1 (.l 0) (.l 1), none, none, []⟩,
       ⟨.load false 1 (.l 2), none, none, []⟩,
       ⟨.len false (.l 3), none, none, []⟩,
       ⟨.mv (.v 6), none, none, []⟩,
       ⟨.bin .gtr false (.l 4) (.l 5), none, none, []⟩,
       ⟨.mv (.l 6), none, none, []⟩,
       ⟨.mv (.v 8), none, some ((.l 7), false), []⟩,
       ⟨.mv (.v 10), none, some ((.l 7), false), []⟩,
       ⟨.indexAddr 1 (.l 8) (.l 9), none, some ((.l 7), false), []⟩,
       ⟨.load false 1 (.l 10), none, some ((.l 7), false), []⟩,
       ⟨.call 16 [(.l 11)] [(0, 0)] true, none, some ((.l 7), false), []⟩,
       ⟨.mv (.v 11), none, some ((.l 7), false), []⟩,
       ⟨.bin .neq false (.l 12) (.l 13), none, some ((.l 7), false), []⟩,
       ⟨.pick (.l 7) (.c (.bool true)) (.l 14), some 15, none, []⟩]) (
     .cond (.v 15) (
      .seq (
      .reg [⟨.mv (.c (.bool false)), some 3, none, []⟩]) (
      .ret)) (
      .skip))) (
     .seq (
     .reg [⟨.mv (.v 8), none, none, []⟩,
       ⟨.mv (.v 10), none, none, []⟩,
       ⟨.indexAddr 1 (.l 0) (.l 1), none, none, []⟩,
       ⟨.load false 1 (.l 2), none, none, []⟩,
       ⟨.mv (.v 11), none, none, []⟩,
       ⟨.slice false 1 (.l 3) (some (.l 4)) none none, none, none, []⟩,
       ⟨.call 13 [(.l 5)] [(0, 0), (0, 0)] true, none, none, []⟩,
       ⟨.mv (.l 6), none, none, []⟩,
       ⟨.extract (.l 7) 0, none, none, []⟩,
       ⟨.extract (.l 7) 1, none, none, []⟩,
       ⟨.mv (.l 8), none, none, []⟩,
       ⟨.mv (.l 9), some 12, none, []⟩]) (
     .seq (
     .reg [⟨.mv (.v 12), none, none, []⟩,
       ⟨.un .not (.l 0), none, none, []⟩,
       ⟨.mv (.l 1), none, none, []⟩,
       ⟨.mv (.v 10), none, some ((.l 2), false), []⟩,
       ⟨.bin .gtr false (.l 3) (.c (.int .i64 0)), none, some ((.l 2), false), []⟩,
       ⟨.mv (.l 4), none, some ((.l 2), false), []⟩,
       ⟨.mv (.v 8), none, some ((.l 5), true), [4]⟩,
       ⟨.mv (.v 10), none, some ((.l 5), true), [4]⟩,
       ⟨.bin .sub false (.l 7) (.c (.int .i64 1)), none, some ((.l 5), true), [4]⟩,
       ⟨.indexAddr 1 (.l 6) (.l 8), none, some ((.l 5), true), [4]⟩,
       ⟨.load false 1 (.l 9), none, some ((.l 5), true), [4]⟩,
       ⟨.len false (.l 10), none, some ((.l 5), true), [4]⟩,
       ⟨.bin .add false (.l 11) (.c (.int .i64 1)), none, some ((.l 5), true), [4]⟩,
       ⟨.mv (.v 8), none, some ((.l 5), true), []⟩,
       ⟨.mv (.v 10), none, some ((.l 5), true), []⟩,
       ⟨.indexAddr 1 (.l 13) (.l 14), none, some ((.l 5), true), []⟩,
       ⟨.load false 1 (.l 15), none, some ((.l 5), true), []⟩,
       ⟨.mv (.v 11), none, some ((.l 5), true), []⟩,
       ⟨.slice false 1 (.l 16) (some (.l 17)) none none, none, some ((.l 5), true), []⟩,
       ⟨.call 24 [(.l 18)] [(4, 1)] false, none, some ((.l 5), true), []⟩,
       ⟨.indexAddr 1 (.l 19) (.c (.int .i64 0)), none, some ((.l 5), true), []⟩,
       ⟨.load false 1 (.l 20), none, some ((.l 5), true), []⟩,
       ⟨.len false (.l 21), none, some ((.l 5), true), []⟩,
       ⟨.bin .add false (.l 12) (.l 22), none, some ((.l 5), true), []⟩,
       ⟨.mv (.v 6), none, some ((.l 5), true), [4]⟩,
       ⟨.bin .leq false (.l 23) (.l 24), none, some ((.l 5), true), []⟩,
       ⟨.pick (.l 5) (.l 25) (.c (.bool false)), none, some ((.l 2), false), []⟩,
       ⟨.pick (.l 2) (.c (.bool true)) (.l 26), some 16, none, []⟩]) (
     .cond (.v 16) (
      .seq (
      .reg [⟨.mv (.c (.bool false)), some 3, none, []⟩]) (
      .ret)) (
      .skip))))))) (
    .reg [⟨.mv (.v 10), none, none, []⟩,
      ⟨.bin .add false (.l 0) (.c (.int .i64 1)), none, none, []⟩,
      ⟨.mv (.l 1), some 10, none, []⟩])))))) (
  .seq (
  .reg [⟨.mv (.v 8), none, none, []⟩,
    ⟨.len false (.l 0), none, none, []⟩,
    ⟨.bin .gtr false (.l 1) (.c (.int .i64 0)), none, none, []⟩,
    ⟨.mv (.l 2), none, none, []⟩,
    ⟨.mv (.v 4), none, some ((.l 3), true), []⟩,
    ⟨.pick (.l 3) (.l 4) (.c (.bool false)), none, none, []⟩,
    ⟨.mv (.l 5), some 3, none, []⟩]) (
  .ret)))))))))⟩

def X7 : XFn :=
 ⟨161, [0, 1, 2, 4, 6, 7, 8, 9, 10, 11, 12, 13, 15, 16, 18, 19, 20, 62, 88, 105], 18, [(4, none)],
  .seq (
  .reg [⟨.box 0 (.v 1), some 3, none, []⟩,
    ⟨.mv (.c (.bool false)), some 4, none, []⟩]) (
  .seq (
  .reg [⟨.call 9 [] [(0, 0)] true, none, none, []⟩,
    ⟨.mv (.l 0), some 5, none, []⟩]) (
  .seq (
  .reg [⟨.mv (.v 0), none, none, []⟩,
    ⟨.call 20 [(.l 0)] [(1, 1)] true, none, none, []⟩,
    ⟨.mv (.l 1), some 6, none, []⟩]) (
  .seq (
  .reg [⟨.load true 3 (.v 3), none, none, []⟩,
    ⟨.call 21 [(.l 0)] [(0, 0), (0, 0), (0, 0)] true, none, none, []⟩,
    ⟨.mv (.l 1), none, none, []⟩,
    ⟨.extract (.l 2) 0, none, none, []⟩,
    ⟨.extract (.l 2) 1, none, none, []⟩,
    ⟨.alloc 2 [(.int .i64 0), (.int .i64 0)], some 8, none, []⟩,
    ⟨.mv (.l 3), some 7, none, []⟩,
    ⟨.store 2 (.l 5) (.l 4), none, none, []⟩]) (
  .seq (
  .reg [⟨.mv (.v 2), none, none, []⟩,
    ⟨.conv .i64 (.l 0), none, none, []⟩,
    ⟨.bin .rem false (.l 1) (.c (.int .i64 12)), none, none, []⟩,
    ⟨.bin .add false (.c (.int .i64 1)) (.l 2), none, none, []⟩,
    ⟨.call 26 [(.l 3)] [(3, 1)] true, none, none, []⟩,
    ⟨.mv (.l 4), some 9, none, []⟩]) (
  .seq (
  .reg [⟨.mkarr 4 1 [] [], none, none, []⟩,
    ⟨.mv (.v 6), none, none, []⟩,
    ⟨.append 4 1 1 2 (.l 0) (.l 1), none, none, []⟩,
    ⟨.mkarr 6 1 [(.int .u8 0)] [(0, (.c (.int .u8 0)))], none, none, []⟩,
    ⟨.append 4 1 1 2 (.l 2) (.l 3), none, none, []⟩,
    ⟨.mv (.v 9), none, none, []⟩,
    ⟨.append 4 1 1 2 (.l 4) (.l 5), none, none, []⟩,
    ⟨.mv (.l 6), some 10, none, []⟩]) (
  .seq (
  .reg [⟨.mv (.v 6), none, none, []⟩,
    ⟨.mv (.v 7), none, none, []⟩,
    ⟨.load true 2 (.v 8), none, none, []⟩,
    ⟨.call 10 [(.l 0), (.l 1), (.l 2)] [(9, 1), (0, 0), (0, 0)] true, none, none, []⟩,
    ⟨.mv (.l 3), none, none, []⟩,
    ⟨.extract (.l 4) 0, none, none, []⟩,
    ⟨.extract (.l 4) 1, none, none, []⟩,
    ⟨.extract (.l 4) 2, none, none, []⟩,
    ⟨.mv (.l 5), some 11, none, []⟩,
    ⟨.mv (.l 6), none, none, []⟩,
    ⟨.mv (.l 7), some 12, none, []⟩]) (
  .seq (
  .reg [⟨.mv (.v 10), none, none, []⟩,
    ⟨.mv (.v 7), none, none, []⟩,
    ⟨.load true 2 (.v 8), none, none, []⟩,
    ⟨.call 10 [(.l 0), (.l 1), (.l 2)] [(10, 1), (0, 0), (0, 0)] true, none, none, []⟩,
    ⟨.mv (.l 3), none, none, []⟩,
    ⟨.extract (.l 4) 0, none, none, []⟩,
    ⟨.extract (.l 4) 1, none, none, []⟩,
    ⟨.extract (.l 4) 2, none, none, []⟩,
    ⟨.mv (.l 5), some 13, none, []⟩,
    ⟨.mv (.l 6), none, none, []⟩,
    ⟨.mv (.l 7), some 14, none, []⟩]) (
  .seq (
  .seq (
  .reg [⟨.mv (.v 12), none, none, []⟩,
    ⟨.bin .neq false (.l 0) (.c (.int .i64 0)), none, none, []⟩,
    ⟨.mv (.l 1), none, none, []⟩,
    ⟨.mv (.v 14), none, some ((.l 2), false), []⟩,
    ⟨.bin .neq false (.l 3) (.c (.int .i64 0)), none, some ((.l 2), false), []⟩,
    ⟨.pick (.l 2) (.c (.bool true)) (.l 4), some 17, none, []⟩]) (
  .cond (.v 17) (
   .seq (
   .reg [⟨.mv (.v 12), none, none, []⟩,
     ⟨.bin .neq false (.l 0) (.c (.int .i64 0)), none, none, []⟩,
     ⟨.mv (.v 14), none, none, []⟩,
     ⟨.bin .neq false (.l 2) (.c (.int .i64 0)), none, none, []⟩,
     ⟨.bin .eql true (.l 1) (.l 3), none, none, []⟩,
     ⟨.mv (.l 4), none, none, []⟩,
     ⟨.mv (.v 5), none, some ((.l 5), true), []⟩,
     ⟨.pick (.l 5) (.l 6) (.c (.bool false)), none, none, []⟩,
     ⟨.mv (.l 7), some 4, none, []⟩]) (
   .ret)) (
   .skip))) (
  .seq (
  .seq (
  .reg [⟨.mv (.v 11), none, none, []⟩,
    ⟨.len false (.l 0), none, none, []⟩,
    ⟨.bin .eql false (.l 1) (.c (.int .i64 0)), none, none, []⟩,
    ⟨.mv (.l 2), none, none, []⟩,
    ⟨.mv (.v 13), none, some ((.l 3), false), []⟩,
    ⟨.len false (.l 4), none, some ((.l 3), false), []⟩,
    ⟨.mv (.v 11), none, some ((.l 3), false), []⟩,
    ⟨.len false (.l 6), none, some ((.l 3), false), []⟩,
    ⟨.bin .lss false (.l 5) (.l 7), none, some ((.l 3), false), []⟩,
    ⟨.pick (.l 3) (.c (.bool true)) (.l 8), none, none, []⟩,
    ⟨.mv (.l 9), none, none, []⟩,
    ⟨.mv (.v 13), none, some ((.l 10), false), []⟩,
    ⟨.len false (.l 11), none, some ((.l 10), false), []⟩,
    ⟨.mv (.v 11), none, some ((.l 10), false), []⟩,
    ⟨.len false (.l 13), none, some ((.l 10), false), []⟩,
    ⟨.bin .add false (.l 14) (.c (.int .i64 1)), none, some ((.l 10), false), []⟩,
    ⟨.bin .gtr false (.l 12) (.l 15), none, some ((.l 10), false), []⟩,
    ⟨.pick (.l 10) (.c (.bool true)) (.l 16), some 18, none, []⟩]) (
  .cond (.v 18) (
   .seq (
   .reg [⟨.mv (.c (.bool false)), some 4, none, []⟩]) (
   .ret)) (
   .skip))) (
  .seq (
  .reg [⟨.mv (.v 11), none, none, []⟩,
    ⟨.len false (.l 0), none, none, []⟩,
    ⟨.bin .sub false (.l 1) (.c (.int .i64 1)), none, none, []⟩,
    ⟨.mv (.l 2), some 15, none, []⟩]) (
  .seq (
  .reg [⟨.mkarr 11 1 [] [], none, none, []⟩,
    ⟨.mv (.v 11), none, none, []⟩,
    ⟨.mv (.v 15), none, none, []⟩,
    ⟨.indexAddr 1 (.l 1) (.l 2), none, none, []⟩,
    ⟨.load false 1 (.l 3), none, none, []⟩,
    ⟨.append 11 1 1 2 (.l 0) (.l 4), none, none, []⟩,
    ⟨.mkarr 13 1 [(.int .u8 0)] [(0, (.c (.int .u8 0)))], none, none, []⟩,
    ⟨.append 11 1 1 2 (.l 5) (.l 6), none, none, []⟩,
    ⟨.mv (.v 9), none, none, []⟩,
    ⟨.append 11 1 1 2 (.l 7) (.l 8), none, none, []⟩,
    ⟨.mv (.l 9), some 16, none, []⟩]) (
  .seq (
  .seq (
  .reg [⟨.mv (.v 16), none, none, []⟩,
    ⟨.len false (.l 0), none, none, []⟩,
    ⟨.mv (.v 7), none, none, []⟩,
    ⟨.bin .leq false (.l 1) (.l 2), some 19, none, []⟩]) (
  .cond (.v 19) (
   .seq (
   .reg [⟨.mv (.v 13), none, none, []⟩,
     ⟨.len false (.l 0), none, none, []⟩,
     ⟨.mv (.v 11), none, none, []⟩,
     ⟨.len false (.l 2), none, none, []⟩,
     ⟨.bin .eql false (.l 1) (.l 3), none, none, []⟩,
     ⟨.mv (.l 4), none, none, []⟩,
     ⟨.mv (.v 13), none, some ((.l 5), true), []⟩,
     ⟨.mv (.v 15), none, some ((.l 5), true), []⟩,
     ⟨.slice false 1 (.l 6) none (some (.l 7)) none, none, some ((.l 5), true), []⟩,
     ⟨.mv (.v 11), none, some ((.l 5), true), []⟩,
     ⟨.mv (.v 15), none, some ((.l 5), true), []⟩,
     ⟨.slice false 1 (.l 9) none (some (.l 10)) none, none, some ((.l 5), true), []⟩,
     ⟨.call 14 [(.l 8), (.l 11)] [(0, 0)] false, none, some ((.l 5), true), []⟩,
     ⟨.pick (.l 5) (.l 12) (.c (.bool false)), none, none, []⟩,
     ⟨.mv (.l 13), none, none, []⟩,
     ⟨.mv (.v 13), none, some ((.l 14), true), []⟩,
     ⟨.mv (.v 15), none, some ((.l 14), true), []⟩,
     ⟨.indexAddr 1 (.l 15) (.l 16), none, some ((.l 14), true), []⟩,
     ⟨.load false 1 (.l 17), none, some ((.l 14), true), []⟩,
     ⟨.mv (.v 16), none, some ((.l 14), true), []⟩,
     ⟨.call 17 [(.l 18), (.l 19)] [(0, 0)] false, none, some ((.l 14), true), []⟩,
     ⟨.pick (.l 14) (.l 20) (.c (.bool false)), none, none, []⟩,
     ⟨.mv (.l 21), none, none, []⟩,
     ⟨.mv (.v 5), none, some ((.l 22), true), []⟩,
     ⟨.pick (.l 22) (.l 23) (.c (.bool false)), none, none, []⟩,
     ⟨.mv (.l 24), some 4, none, []⟩]) (
   .ret)) (
   .skip))) (
  .seq (
  .reg [⟨.mv (.v 13), none, none, []⟩,
    ⟨.len false (.l 0), none, none, []⟩,
    ⟨.mv (.v 11), none, none, []⟩,
    ⟨.len false (.l 2), none, none, []⟩,
    ⟨.bin .add false (.l 3) (.c (.int .i64 1)), none, none, []⟩,
    ⟨.bin .eql false (.l 1) (.l 4), none, none, []⟩,
    ⟨.mv (.l 5), none, none, []⟩,
    ⟨.mv (.v 13), none, some ((.l 6), true), []⟩,
    ⟨.mv (.v 11), none, some ((.l 6), true), []⟩,
    ⟨.len false (.l 8), none, some ((.l 6), true), []⟩,
    ⟨.slice false 1 (.l 7) none (some (.l 9)) none, none, some ((.l 6), true), []⟩,
    ⟨.mv (.v 11), none, some ((.l 6), true), []⟩,
    ⟨.call 14 [(.l 10), (.l 11)] [(0, 0)] false, none, some ((.l 6), true), []⟩,
    ⟨.pick (.l 6) (.l 12) (.c (.bool false)), none, none, []⟩,
    ⟨.mv (.l 13), none, none, []⟩,
    ⟨.mv (.v 13), none, some ((.l 14), true), [16, 16]⟩,
    ⟨.mv (.v 11), none, some ((.l 14), true), [16, 16]⟩,
    ⟨.len false (.l 16), none, some ((.l 14), true), [16, 16]⟩,
    ⟨.indexAddr 1 (.l 15) (.l 17), none, some ((.l 14), true), [16, 16]⟩,
    ⟨.load false 1 (.l 18), none, some ((.l 14), true), [16, 16]⟩,
    ⟨.indexAddrA 2 1 (.v 8) (.c (.int .i64 1)), none, some ((.l 14), true), []⟩,
    ⟨.load false 1 (.l 20), none, some ((.l 14), true), []⟩,
    ⟨.makeSlice 16 1 1 (.int .u8 0) (.l 21) (.l 21), none, some ((.l 14), true), []⟩,
    ⟨.mv (.v 9), none, some ((.l 14), true), [16]⟩,
    ⟨.append 16 1 1 2 (.l 22) (.l 23), none, some ((.l 14), true), []⟩,
    ⟨.call 17 [(.l 19), (.l 24)] [(0, 0)] false, none, some ((.l 14), true), []⟩,
    ⟨.pick (.l 14) (.l 25) (.c (.bool false)), none, none, []⟩,
    ⟨.mv (.l 26), none, none, []⟩,
    ⟨.mv (.v 5), none, some ((.l 27), true), []⟩,
    ⟨.pick (.l 27) (.l 28) (.c (.bool false)), none, none, []⟩,
    ⟨.mv (.l 29), some 4, none, []⟩]) (
  .ret))))))))))))))⟩

def X8 : XFn :=
 ⟨168, [0, 1, 2, 5, 6, 7, 8, 9, 10, 11, 12, 13, 14, 15, 16, 17, 18, 19, 20, 21, 22, 23, 24, 27, 37, 51, 88, 117, 151], 14, [(4, none)],
  .seq (
  .reg [⟨.box 0 (.v 2), some 3, none, []⟩,
    ⟨.mv (.c (.bool false)), some 4, none, []⟩]) (
  .seq (
  .reg [⟨.call 9 [] [(0, 0)] true, none, none, []⟩,
    ⟨.mv (.l 0), some 5, none, []⟩]) (
  .seq (
  .reg [⟨.mkarr 1 1 [] [], none, none, []⟩,
    ⟨.mv (.l 0), some 6, none, []⟩]) (
  .seq (
  .seq (
  .reg [⟨.mv (.c (.int .i64 0)), some 7, none, []⟩]) (
  .block 0 (
   .loopS [0, 1, 3, 5, 6, 7] 14 (
    .seq (
    .seq (
    .reg [⟨.mv (.v 7), none, none, []⟩,
      ⟨.mv (.v 0), none, none, []⟩,
      ⟨.len false (.l 1), none, none, []⟩,
      ⟨.bin .lss false (.l 0) (.l 2), none, none, []⟩,
      ⟨.mv (.l 3), none, none, []⟩,
      ⟨.mv (.v 7), none, some ((.l 4), true), []⟩,
      ⟨.bin .lss false (.l 5) (.c (.int .i64 6)), none, some ((.l 4), true), []⟩,
      ⟨.pick (.l 4) (.l 6) (.c (.bool false)), some 24, none, []⟩]) (
    .cond (.v 24) (
     .skip) (
     .exit 0))) (
    .seq (
    .block 1 (
     .seq (
     .reg [⟨.mkarr 2 1 [] [], none, none, []⟩,
       ⟨.mv (.l 0), some 8, none, []⟩]) (
     .seq (
     .seq (
     .reg [⟨.mv (.c (.int .i64 0)), some 9, none, []⟩]) (
     .block 2 (
      .loopS [0, 1, 3, 5, 6, 7, 8, 9] 14 (
       .seq (
       .seq (
       .reg [⟨.mv (.v 9), none, none, []⟩,
         ⟨.mv (.v 0), none, none, []⟩,
         ⟨.mv (.v 7), none, none, []⟩,
         ⟨.indexAddr 1 (.l 1) (.l 2), none, none, []⟩,
         ⟨.load false 1 (.l 3), none, none, []⟩,
         ⟨.len false (.l 4), none, none, []⟩,
         ⟨.bin .lss false (.l 0) (.l 5), none, none, []⟩,
         ⟨.mv (.l 6), none, none, []⟩,
         ⟨.mv (.v 9), none, some ((.l 7), true), []⟩,
         ⟨.bin .lss false (.l 8) (.c (.int .i64 12)), none, some ((.l 7), true), []⟩,
         ⟨.pick (.l 7) (.l 9) (.c (.bool false)), some 25, none, []⟩]) (
       .cond (.v 25) (
        .skip) (
        .exit 2))) (
       .seq (
       .block 3 (
        .reg [⟨.mv (.v 8), none, none, []⟩,
          ⟨.mv (.v 0), none, none, []⟩,
          ⟨.mv (.v 7), none, none, []⟩,
          ⟨.indexAddr 1 (.l 1) (.l 2), none, none, []⟩,
          ⟨.load false 1 (.l 3), none, none, []⟩,
          ⟨.mv (.v 9), none, none, []⟩,
          ⟨.indexAddr 1 (.l 4) (.l 5), none, none, []⟩,
          ⟨.load false 1 (.l 6), none, none, []⟩,
          ⟨.bin .rem false (.l 7) (.c (.int .u8 66)), none, none, []⟩,
          ⟨.mkarr 3 1 [(.int .u8 0)] [(0, (.l 8))], none, none, []⟩,
          ⟨.append 4 1 1 1 (.l 0) (.l 9), none, none, []⟩,
          ⟨.mv (.l 10), some 8, none, []⟩])) (
       .reg [⟨.mv (.v 9), none, none, []⟩,
         ⟨.bin .add false (.l 0) (.c (.int .i64 1)), none, none, []⟩,
         ⟨.mv (.l 1), some 9, none, []⟩])))))) (
     .reg [⟨.mv (.v 6), none, none, []⟩,
       ⟨.mv (.v 8), none, none, []⟩,
       ⟨.mkarr 5 1 [.nils] [(0, (.l 1))], none, none, []⟩,
       ⟨.append 6 1 24 1 (.l 0) (.l 2), none, none, []⟩,
       ⟨.mv (.l 3), some 6, none, []⟩])))) (
    .reg [⟨.mv (.v 7), none, none, []⟩,
      ⟨.bin .add false (.l 0) (.c (.int .i64 1)), none, none, []⟩,
      ⟨.mv (.l 1), some 7, none, []⟩])))))) (
  .seq (
  .reg [⟨.indexAddrA 5 1 (.v 3) (.c (.int .i64 0)), none, none, []⟩,
    ⟨.load false 1 (.l 0), none, none, []⟩,
    ⟨.indexAddrA 5 1 (.v 3) (.c (.int .i64 1)), none, none, []⟩,
    ⟨.load false 1 (.l 2), none, none, []⟩,
    ⟨.indexAddrA 5 1 (.v 3) (.c (.int .i64 2)), none, none, []⟩,
    ⟨.load false 1 (.l 4), none, none, []⟩,
    ⟨.build [(.int .u8 0), (.int .u8 0), (.int .u8 0)] [(0, 1, (.l 1)), (1, 1, (.l 3)), (2, 1, (.l 5))], none, none, []⟩,
    ⟨.call 21 [(.l 6)] [(0, 0), (0, 0), (0, 0)] true, none, none, []⟩,
    ⟨.mv (.l 7), none, none, []⟩,
    ⟨.extract (.l 8) 0, none, none, []⟩,
    ⟨.extract (.l 8) 1, none, none, []⟩,
    ⟨.alloc 7 [(.int .i64 0), (.int .i64 0)], some 11, none, []⟩,
    ⟨.mv (.l 9), some 10, none, []⟩,
    ⟨.store 2 (.l 11) (.l 10), none, none, []⟩]) (
  .seq (
  .reg [⟨.mv (.v 1), none, none, []⟩,
    ⟨.call 20 [(.l 0)] [(8, 1)] false, none, none, []⟩,
    ⟨.mv (.v 10), none, none, [8]⟩,
    ⟨.load true 2 (.v 11), none, none, [8]⟩,
    ⟨.call 11 [(.l 1), (.l 2), (.l 3)] [(9, 1), (0, 0), (0, 0)] false, none, none, []⟩,
    ⟨.field false 0 1 (.l 4), none, none, []⟩,
    ⟨.mv (.l 5), some 12, none, []⟩]) (
  .seq (
  .seq (
  .reg [⟨.mv (.v 12), none, none, []⟩,
    ⟨.len false (.l 0), none, none, []⟩,
    ⟨.bin .gtr false (.l 1) (.c (.int .i64 0)), some 26, none, []⟩]) (
  .cond (.v 26) (
   .seq (
   .reg [⟨.indexAddrA 5 1 (.v 3) (.c (.int .i64 3)), none, none, []⟩,
     ⟨.load false 1 (.l 0), none, none, []⟩,
     ⟨.conv .i64 (.l 1), none, none, []⟩,
     ⟨.mv (.v 12), none, none, []⟩,
     ⟨.len false (.l 3), none, none, []⟩,
     ⟨.bin .rem false (.l 2) (.l 4), none, none, []⟩,
     ⟨.mv (.l 5), some 13, none, []⟩]) (
   .seq (
   .reg [⟨.indexAddrA 5 1 (.v 3) (.c (.int .i64 4)), none, none, []⟩,
     ⟨.load false 1 (.l 0), none, none, []⟩,
     ⟨.conv .i64 (.l 1), none, none, []⟩,
     ⟨.mv (.v 12), none, none, []⟩,
     ⟨.mv (.v 13), none, none, []⟩,
     ⟨.indexAddr 1 (.l 3) (.l 4), none, none, []⟩,
     ⟨.load false 1 (.l 5), none, none, []⟩,
     ⟨.len false (.l 6), none, none, []⟩,
     ⟨.bin .rem false (.l 2) (.l 7), none, none, []⟩,
     ⟨.mv (.l 8), some 14, none, []⟩]) (
   .reg [⟨.mv (.v 12), none, none, []⟩,
     ⟨.mv (.v 13), none, none, []⟩,
     ⟨.indexAddr 1 (.l 0) (.l 1), none, none, []⟩,
     ⟨.load false 1 (.l 2), none, none, []⟩,
     ⟨.mv (.v 14), none, none, []⟩,
     ⟨.indexAddrA 5 1 (.v 3) (.c (.int .i64 3)), none, none, []⟩,
     ⟨.load false 1 (.l 5), none, none, []⟩,
     ⟨.bin .rem false (.l 6) (.c (.int .u8 3)), none, none, []⟩,
     ⟨.indexAddr 1 (.l 3) (.l 4), none, none, []⟩,
     ⟨.store 1 (.l 8) (.l 7), none, none, []⟩]))) (
   .skip))) (
  .seq (
  .reg [⟨.mv (.v 6), none, none, []⟩,
    ⟨.mv (.v 12), none, none, []⟩,
    ⟨.build [.nils, .nils] [(0, 1, (.l 0)), (1, 1, (.l 1))], none, none, []⟩,
    ⟨.alloc 10 [.nils, .nils], some 15, none, []⟩,
    ⟨.store 2 (.l 3) (.l 2), none, none, []⟩]) (
  .seq (
  .seq (
  .reg [⟨.mv (.c (.int .i64 0)), some 16, none, []⟩]) (
  .block 4 (
   .loopS [3, 5, 6, 11, 15, 16] 14 (
    .seq (
    .seq (
    .reg [⟨.mv (.v 16), none, none, []⟩,
      ⟨.bin .lss false (.l 0) (.c (.int .i64 2)), some 27, none, []⟩]) (
    .cond (.v 27) (
     .skip) (
     .exit 4))) (
    .seq (
    .block 5 (
     .seq (
     .reg [⟨.mv (.v 16), none, none, []⟩,
       ⟨.indexAddrA 2 1 (.v 15) (.l 0), none, none, []⟩,
       ⟨.load false 1 (.l 1), none, none, []⟩,
       ⟨.load true 2 (.v 11), none, none, []⟩,
       ⟨.call 23 [(.l 2), (.l 3)] [(11, 1), (0, 0), (0, 0)] false, none, none, []⟩,
       ⟨.mv (.l 4), none, none, []⟩,
       ⟨.extract (.l 5) 0, none, none, []⟩,
       ⟨.extract (.l 5) 1, none, none, []⟩,
       ⟨.extract (.l 5) 2, none, none, []⟩,
       ⟨.mv (.l 6), some 17, none, []⟩,
       ⟨.mv (.l 7), some 18, none, []⟩,
       ⟨.mv (.l 8), some 19, none, []⟩]) (
     .seq (
     .reg [⟨.mv (.v 16), none, none, []⟩,
       ⟨.indexAddrA 2 1 (.v 15) (.l 0), none, none, []⟩,
       ⟨.load false 1 (.l 1), none, none, []⟩,
       ⟨.load true 2 (.v 11), none, none, []⟩,
       ⟨.call 27 [(.l 2), (.l 3)] [(12, 1), (0, 0), (0, 0)] false, none, none, []⟩,
       ⟨.mv (.l 4), none, none, []⟩,
       ⟨.extract (.l 5) 0, none, none, []⟩,
       ⟨.extract (.l 5) 1, none, none, []⟩,
       ⟨.extract (.l 5) 2, none, none, []⟩,
       ⟨.mv (.l 6), some 20, none, []⟩,
       ⟨.mv (.l 7), some 21, none, []⟩,
       ⟨.mv (.l 8), some 22, none, []⟩]) (
     .seq (
     .reg [⟨.mv (.v 17), none, none, []⟩,
       ⟨.mv (.v 20), none, none, []⟩,
       ⟨.call 17 [(.l 0), (.l 1)] [(0, 0)] true, none, none, []⟩,
       ⟨.un .not (.l 2), none, none, []⟩,
       ⟨.mv (.l 3), none, none, []⟩,
       ⟨.mv (.v 18), none, some ((.l 4), false), []⟩,
       ⟨.mv (.v 21), none, some ((.l 4), false), []⟩,
       ⟨.bin .neq false (.l 5) (.l 6), none, some ((.l 4), false), []⟩,
       ⟨.pick (.l 4) (.c (.bool true)) (.l 7), none, none, []⟩,
       ⟨.mv (.l 8), none, none, []⟩,
       ⟨.mv (.v 19), none, some ((.l 9), false), []⟩,
       ⟨.mv (.v 22), none, some ((.l 9), false), []⟩,
       ⟨.bin .neq false (.l 10) (.l 11), none, some ((.l 9), false), []⟩,
       ⟨.pick (.l 9) (.c (.bool true)) (.l 12), some 28, none, []⟩]) (
     .cond (.v 28) (
      .seq (
      .reg [⟨.mv (.c (.bool false)), some 4, none, []⟩]) (
      .ret)) (
      .skip)))))) (
    .reg [⟨.mv (.v 16), none, none, []⟩,
      ⟨.bin .add false (.l 0) (.c (.int .i64 1)), none, none, []⟩,
      ⟨.mv (.l 1), some 16, none, []⟩])))))) (
  .seq (
  .reg [⟨.mv (.v 6), none, none, []⟩,
    ⟨.indexAddrA 5 1 (.v 3) (.c (.int .i64 3)), none, none, []⟩,
    ⟨.load false 1 (.l 1), none, none, []⟩,
    ⟨.conv .i64 (.l 2), none, none, []⟩,
    ⟨.bin .add false (.c (.int .i64 17)) (.l 3), none, none, []⟩,
    ⟨.build [(.int .i64 0), (.int .i64 0)] [(0, 1, (.c (.int .i64 0))), (1, 1, (.l 4))], none, none, []⟩,
    ⟨.call 23 [(.l 0), (.l 5)] [(13, 1), (0, 0), (0, 0)] true, none, none, []⟩,
    ⟨.mv (.l 6), none, none, []⟩,
    ⟨.extract (.l 7) 0, none, none, []⟩,
    ⟨.extract (.l 7) 1, none, none, []⟩,
    ⟨.extract (.l 7) 2, none, none, []⟩,
    ⟨.mv (.l 8), none, none, []⟩,
    ⟨.mv (.l 9), none, none, []⟩,
    ⟨.mv (.l 10), some 23, none, []⟩]) (
  .seq (
  .reg [⟨.mv (.v 23), none, none, []⟩,
    ⟨.bin .eql false (.l 0) (.c (.int .i64 1)), none, none, []⟩,
    ⟨.mv (.l 1), none, none, []⟩,
    ⟨.mv (.v 5), none, some ((.l 2), true), []⟩,
    ⟨.pick (.l 2) (.l 3) (.c (.bool false)), none, none, []⟩,
    ⟨.mv (.l 4), some 4, none, []⟩]) (
  .ret)))))))))))⟩

theorem c5 : compFn Try.prog 5 = some { X5 with body := strip X5.body } := by kernel_rfl
theorem c7 : compFn Try.prog 7 = some { X7 with body := strip X7.body } := by kernel_rfl
theorem c8 : compFn Try.prog 8 = some { X8 with body := strip X8.body } := by kernel_rfl
end Go.Proofs.Ytnlapjkfbodbkaa.L
