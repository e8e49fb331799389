/-
  Chapter 30: the laws' functions and the fixed examples, as the machine takes them (printed; the arrays that are shared are frozen).
-/
import Derived.Test.YteafgpjhgefiiaaProg
import Derived.KernelRfl
import Derived.Test.YteafgpjhgefiiaaSbX
namespace Go.Proofs.Yteafgpjhgefiiaa.S
set_option linter.unusedSimpArgs false
set_option linter.unusedVariables false
set_option linter.unusedSectionVars false
open Go.Proofs.Yteafgpjhgefiiaa.Am
def X3 : XFn :=
 ⟨82, [0, 1, 2, 6, 7, 8, 9, 10, 11, 12, 13, 30], 15, [(3, none)],
  .seq (
  .reg [⟨.mv (.c (.bool false)), some 3, none, []⟩]) (
  .seq (
  .reg [⟨.call 10 [] [(0, 0)] true, none, none, []⟩,
    ⟨.mv (.l 0), some 4, none, []⟩]) (
  .seq (
  .reg [⟨.mv (.v 0), none, none, []⟩,
    ⟨.call 11 [(.l 0), (.c (.int .i64 10))] [(0, 4)] true, none, none, []⟩,
    ⟨.mv (.v 1), none, none, []⟩,
    ⟨.call 11 [(.l 2), (.c (.int .i64 10))] [(1, 4)] true, none, none, []⟩,
    ⟨.mv (.l 1), some 5, none, []⟩,
    ⟨.mv (.l 3), some 6, none, []⟩]) (
  .frz [(0, true), (1, true)] (
  .seq (
  .reg [⟨.mv (.v 5), none, none, []⟩,
    ⟨.mv (.v 6), none, none, []⟩,
    ⟨.call 12 [(.l 0), (.l 1)] [(2, 1), (0, 0)] true, none, none, []⟩,
    ⟨.build [.nils, (.int .i64 0)] [], none, none, []⟩,
    ⟨.alloc 3 [.nils, (.int .i64 0)], some 7, none, []⟩,
    ⟨.alloc 4 [.nils, (.int .i64 0)], some 8, none, []⟩,
    ⟨.store 2 (.l 4) (.l 2), none, none, []⟩,
    ⟨.store 2 (.l 5) (.l 3), none, none, []⟩]) (
  .frz [(2, true)] (
  .seq (
  .seq (
  .reg [⟨.mv (.c (.int .i64 0)), some 9, none, []⟩]) (
  .block 0 (
   .loopS [0, 1, 2, 4, 5, 6, 7, 8, 9] 15 (
    .seq (
    .seq (
    .reg [⟨.mv (.v 9), none, none, []⟩,
      ⟨.mv (.v 2), none, none, []⟩,
      ⟨.len false (.l 1), none, none, []⟩,
      ⟨.bin .lss false (.l 0) (.l 2), none, none, []⟩,
      ⟨.mv (.l 3), none, none, []⟩,
      ⟨.mv (.v 9), none, some ((.l 4), true), []⟩,
      ⟨.bin .lss false (.l 5) (.c (.int .i64 10)), none, some ((.l 4), true), []⟩,
      ⟨.pick (.l 4) (.l 6) (.c (.bool false)), some 11, none, []⟩]) (
    .cond (.v 11) (
     .skip) (
     .exit 0))) (
    .seq (
    .block 1 (
     .reg [⟨.fieldAddr 0 (.v 8), none, none, [5]⟩,
       ⟨.load false 1 (.l 0), none, none, [5]⟩,
       ⟨.mv (.v 2), none, none, []⟩,
       ⟨.mv (.v 9), none, none, []⟩,
       ⟨.indexAddr 1 (.l 2) (.l 3), none, none, []⟩,
       ⟨.load false 1 (.l 4), none, none, []⟩,
       ⟨.conv .i64 (.l 5), none, none, []⟩,
       ⟨.mkarr 5 1 [(.int .i64 0)] [(0, (.l 6))], none, none, []⟩,
       ⟨.append 6 1 8 1 (.l 1) (.l 7), none, none, []⟩,
       ⟨.fieldAddr 0 (.v 8), none, none, []⟩,
       ⟨.store 1 (.l 9) (.l 8), none, none, []⟩])) (
    .reg [⟨.mv (.v 9), none, none, []⟩,
      ⟨.bin .add false (.l 0) (.c (.int .i64 1)), none, none, []⟩,
      ⟨.mv (.l 1), some 9, none, []⟩])))))) (
  .seq (
  .reg [⟨.mv (.v 5), none, none, []⟩,
    ⟨.mv (.v 6), none, none, []⟩,
    ⟨.call 13 [(.l 0), (.l 1)] [(7, 1), (0, 0)] true, none, none, []⟩,
    ⟨.alloc 8 [.nils, (.int .i64 0)], some 10, none, []⟩,
    ⟨.store 2 (.l 3) (.l 2), none, none, []⟩]) (
  .frz [(7, true), (20, true)] (
  .seq (
  .reg [⟨.load true 2 (.v 7), none, none, []⟩,
    ⟨.load true 2 (.v 10), none, none, []⟩,
    ⟨.call 14 [(.l 0), (.l 1)] [(0, 0)] false, none, none, []⟩,
    ⟨.mv (.l 2), none, none, []⟩,
    ⟨.mv (.v 5), none, some ((.l 3), true), []⟩,
    ⟨.load true 2 (.v 10), none, some ((.l 3), true), []⟩,
    ⟨.call 16 [(.l 4), (.l 5)] [(9, 4)] false, none, some ((.l 3), true), []⟩,
    ⟨.mv (.v 5), none, some ((.l 3), true), [9]⟩,
    ⟨.load true 2 (.v 10), none, some ((.l 3), true), [9]⟩,
    ⟨.call 17 [(.l 7), (.l 8)] [(10, 4)] false, none, some ((.l 3), true), []⟩,
    ⟨.call 15 [(.l 6), (.l 9)] [(0, 0)] false, none, some ((.l 3), true), []⟩,
    ⟨.pick (.l 3) (.l 10) (.c (.bool false)), none, none, []⟩,
    ⟨.mv (.l 11), none, none, []⟩,
    ⟨.mv (.v 5), none, some ((.l 12), true), []⟩,
    ⟨.load true 2 (.v 8), none, some ((.l 12), true), []⟩,
    ⟨.call 16 [(.l 13), (.l 14)] [(11, 4)] false, none, some ((.l 12), true), []⟩,
    ⟨.mv (.v 5), none, some ((.l 12), true), [11]⟩,
    ⟨.load true 2 (.v 8), none, some ((.l 12), true), [11]⟩,
    ⟨.call 17 [(.l 16), (.l 17)] [(12, 4)] false, none, some ((.l 12), true), []⟩,
    ⟨.call 15 [(.l 15), (.l 18)] [(0, 0)] false, none, some ((.l 12), true), []⟩,
    ⟨.pick (.l 12) (.l 19) (.c (.bool false)), none, none, []⟩,
    ⟨.mv (.l 20), none, none, []⟩,
    ⟨.mv (.v 5), none, some ((.l 21), true), [13]⟩,
    ⟨.mv (.v 0), none, some ((.l 21), true), []⟩,
    ⟨.call 11 [(.l 23), (.c (.int .i64 10))] [(13, 4)] false, none, some ((.l 21), true), []⟩,
    ⟨.call 15 [(.l 22), (.l 24)] [(0, 0)] false, none, some ((.l 21), true), []⟩,
    ⟨.pick (.l 21) (.l 25) (.c (.bool false)), none, none, []⟩,
    ⟨.mv (.l 26), none, none, []⟩,
    ⟨.mv (.v 6), none, some ((.l 27), true), [14]⟩,
    ⟨.mv (.v 1), none, some ((.l 27), true), []⟩,
    ⟨.call 11 [(.l 29), (.c (.int .i64 10))] [(14, 4)] false, none, some ((.l 27), true), []⟩,
    ⟨.call 15 [(.l 28), (.l 30)] [(0, 0)] false, none, some ((.l 27), true), []⟩,
    ⟨.pick (.l 27) (.l 31) (.c (.bool false)), none, none, []⟩,
    ⟨.mv (.l 32), none, none, []⟩,
    ⟨.mv (.v 4), none, some ((.l 33), true), []⟩,
    ⟨.pick (.l 33) (.l 34) (.c (.bool false)), none, none, []⟩,
    ⟨.mv (.l 35), some 3, none, []⟩]) (
  .ret))))))))))⟩

def X4 : XFn :=
 ⟨64, [0, 1, 4, 5, 6, 7, 8, 9, 10, 38, 45, 62], 5, [(2, none)],
  .seq (
  .reg [⟨.mv (.c (.bool false)), some 2, none, []⟩]) (
  .seq (
  .reg [⟨.call 10 [] [(0, 0)] true, none, none, []⟩,
    ⟨.mv (.l 0), some 3, none, []⟩]) (
  .seq (
  .reg [⟨.mv (.v 0), none, none, []⟩,
    ⟨.call 11 [(.l 0), (.c (.int .i64 10))] [(0, 4)] true, none, none, []⟩,
    ⟨.mv (.v 1), none, none, []⟩,
    ⟨.call 11 [(.l 2), (.c (.int .i64 10))] [(1, 4)] true, none, none, []⟩,
    ⟨.mv (.l 1), some 4, none, []⟩,
    ⟨.mv (.l 3), some 5, none, []⟩]) (
  .frz [(0, true), (1, true)] (
  .seq (
  .reg [⟨.mv (.v 4), none, none, []⟩,
    ⟨.mv (.v 5), none, none, []⟩,
    ⟨.call 12 [(.l 0), (.l 1)] [(2, 1), (0, 0)] true, none, none, []⟩,
    ⟨.alloc 3 [.nils, (.int .i64 0)], some 6, none, []⟩,
    ⟨.store 2 (.l 3) (.l 2), none, none, []⟩]) (
  .frz [(2, true)] (
  .seq (
  .seq (
  .reg [⟨.mv (.v 4), none, none, []⟩,
    ⟨.mv (.v 5), none, none, []⟩,
    ⟨.load true 2 (.v 6), none, none, []⟩,
    ⟨.call 18 [(.l 0), (.l 1), (.l 2)] [(0, 0)] false, none, none, []⟩,
    ⟨.un .not (.l 3), none, none, []⟩,
    ⟨.mv (.l 4), none, none, []⟩,
    ⟨.mv (.v 4), none, some ((.l 5), false), []⟩,
    ⟨.mv (.v 5), none, some ((.l 5), false), []⟩,
    ⟨.load true 2 (.v 6), none, some ((.l 5), false), []⟩,
    ⟨.call 19 [(.l 6), (.l 7), (.l 8)] [(0, 0)] false, none, some ((.l 5), false), []⟩,
    ⟨.un .not (.l 9), none, some ((.l 5), false), []⟩,
    ⟨.pick (.l 5) (.c (.bool true)) (.l 10), none, none, []⟩,
    ⟨.mv (.l 11), none, none, []⟩,
    ⟨.fieldAddr 1 (.v 6), none, some ((.l 12), false), []⟩,
    ⟨.load false 1 (.l 13), none, some ((.l 12), false), []⟩,
    ⟨.mv (.v 4), none, some ((.l 12), false), []⟩,
    ⟨.mv (.v 5), none, some ((.l 12), false), []⟩,
    ⟨.call 20 [(.l 15), (.l 16)] [(0, 0)] false, none, some ((.l 12), false), []⟩,
    ⟨.bin .neq false (.l 14) (.l 17), none, some ((.l 12), false), []⟩,
    ⟨.pick (.l 12) (.c (.bool true)) (.l 18), some 9, none, []⟩]) (
  .cond (.v 9) (
   .seq (
   .reg [⟨.mv (.c (.bool false)), some 2, none, []⟩]) (
   .ret)) (
   .skip))) (
  .seq (
  .reg [⟨.mv (.v 4), none, none, []⟩,
    ⟨.load true 2 (.v 6), none, none, []⟩,
    ⟨.call 17 [(.l 0), (.l 1)] [(4, 4)] true, none, none, []⟩,
    ⟨.mv (.l 2), some 7, none, []⟩]) (
  .seq (
  .seq (
  .reg [⟨.mv (.c (.int .i64 0)), some 8, none, []⟩]) (
  .block 0 (
   .loopS [3, 5, 6, 7, 8] 5 (
    .seq (
    .seq (
    .reg [⟨.mv (.v 8), none, none, []⟩,
      ⟨.mv (.v 5), none, none, []⟩,
      ⟨.len false (.l 1), none, none, []⟩,
      ⟨.bin .lss false (.l 0) (.l 2), some 10, none, []⟩]) (
    .cond (.v 10) (
     .skip) (
     .exit 0))) (
    .seq (
    .block 1 (
     .seq (
     .reg [⟨.fieldAddr 0 (.v 6), none, none, []⟩,
       ⟨.load false 1 (.l 0), none, none, []⟩,
       ⟨.mv (.v 8), none, none, []⟩,
       ⟨.indexAddr 1 (.l 1) (.l 2), none, none, []⟩,
       ⟨.load false 1 (.l 3), none, none, []⟩,
       ⟨.bin .lss false (.l 4) (.c (.int .i64 0)), none, none, []⟩,
       ⟨.mv (.l 5), none, none, []⟩,
       ⟨.mv (.v 7), none, some ((.l 6), true), []⟩,
       ⟨.mv (.v 5), none, some ((.l 6), true), []⟩,
       ⟨.mv (.v 8), none, some ((.l 6), true), []⟩,
       ⟨.indexAddr 4 (.l 8) (.l 9), none, some ((.l 6), true), []⟩,
       ⟨.load true 4 (.l 10), none, some ((.l 6), true), []⟩,
       ⟨.call 21 [(.l 7), (.l 11)] [(0, 0)] true, none, some ((.l 6), true), []⟩,
       ⟨.bin .gtr false (.l 12) (.c (.int .i64 0)), none, some ((.l 6), true), []⟩,
       ⟨.pick (.l 6) (.l 13) (.c (.bool false)), some 11, none, []⟩]) (
     .cond (.v 11) (
      .seq (
      .reg [⟨.mv (.c (.bool false)), some 2, none, []⟩]) (
      .ret)) (
      .skip)))) (
    .reg [⟨.mv (.v 8), none, none, []⟩,
      ⟨.bin .add false (.l 0) (.c (.int .i64 1)), none, none, []⟩,
      ⟨.mv (.l 1), some 8, none, []⟩])))))) (
  .seq (
  .reg [⟨.mv (.v 3), none, none, []⟩,
    ⟨.mv (.l 0), some 2, none, []⟩]) (
  .ret))))))))))⟩

def X5 : XFn :=
 ⟨43, [0, 1, 2, 5, 6, 7, 8, 9, 10], 8, [(4, none)],
  .seq (
  .reg [⟨.box 0 (.v 2), some 3, none, []⟩,
    ⟨.mv (.c (.bool false)), some 4, none, []⟩]) (
  .seq (
  .reg [⟨.call 10 [] [(0, 0)] true, none, none, []⟩,
    ⟨.mv (.l 0), some 5, none, []⟩]) (
  .seq (
  .reg [⟨.mv (.v 0), none, none, []⟩,
    ⟨.call 11 [(.l 0), (.c (.int .i64 10))] [(1, 4)] true, none, none, []⟩,
    ⟨.mv (.v 1), none, none, []⟩,
    ⟨.call 11 [(.l 2), (.c (.int .i64 10))] [(2, 4)] true, none, none, []⟩,
    ⟨.mv (.l 1), some 6, none, []⟩,
    ⟨.mv (.l 3), some 7, none, []⟩]) (
  .frz [(1, true), (2, true)] (
  .seq (
  .reg [⟨.mv (.v 6), none, none, []⟩,
    ⟨.mv (.v 7), none, none, []⟩,
    ⟨.call 12 [(.l 0), (.l 1)] [(3, 1), (0, 0)] true, none, none, []⟩,
    ⟨.field false 1 1 (.l 2), none, none, []⟩,
    ⟨.mv (.l 3), some 8, none, []⟩]) (
  .seq (
  .reg [⟨.mv (.v 6), none, none, []⟩,
    ⟨.indexAddrA 2 1 (.v 3) (.c (.int .i64 0)), none, none, []⟩,
    ⟨.load false 1 (.l 1), none, none, []⟩,
    ⟨.call 22 [(.l 0), (.l 2)] [(4, 4)] true, none, none, []⟩,
    ⟨.mv (.v 7), none, none, []⟩,
    ⟨.call 12 [(.l 3), (.l 4)] [(5, 1), (0, 0)] true, none, none, []⟩,
    ⟨.field false 1 1 (.l 5), none, none, []⟩,
    ⟨.mv (.v 8), none, none, []⟩,
    ⟨.bin .eql false (.l 6) (.l 7), none, none, []⟩,
    ⟨.mv (.l 8), none, none, []⟩,
    ⟨.mv (.v 6), none, some ((.l 9), true), []⟩,
    ⟨.mv (.v 7), none, some ((.l 9), true), []⟩,
    ⟨.indexAddrA 2 1 (.v 3) (.c (.int .i64 1)), none, some ((.l 9), true), []⟩,
    ⟨.load false 1 (.l 12), none, some ((.l 9), true), []⟩,
    ⟨.call 22 [(.l 11), (.l 13)] [(6, 4)] true, none, some ((.l 9), true), []⟩,
    ⟨.call 12 [(.l 10), (.l 14)] [(7, 1), (0, 0)] true, none, some ((.l 9), true), []⟩,
    ⟨.field false 1 1 (.l 15), none, some ((.l 9), true), []⟩,
    ⟨.mv (.v 8), none, some ((.l 9), true), []⟩,
    ⟨.bin .eql false (.l 16) (.l 17), none, some ((.l 9), true), []⟩,
    ⟨.pick (.l 9) (.l 18) (.c (.bool false)), none, none, []⟩,
    ⟨.mv (.l 19), none, none, []⟩,
    ⟨.mv (.v 5), none, some ((.l 20), true), []⟩,
    ⟨.pick (.l 20) (.l 21) (.c (.bool false)), none, none, []⟩,
    ⟨.mv (.l 22), some 4, none, []⟩]) (
  .ret))))))⟩

def X6 : XFn :=
 ⟨70, [0, 1, 4, 5, 6, 7, 8, 9, 10, 11, 24, 33, 41, 50, 61], 13, [(2, none)],
  .seq (
  .reg [⟨.mv (.c (.bool false)), some 2, none, []⟩]) (
  .seq (
  .reg [⟨.call 10 [] [(0, 0)] true, none, none, []⟩,
    ⟨.mv (.l 0), some 3, none, []⟩]) (
  .seq (
  .reg [⟨.mv (.v 0), none, none, []⟩,
    ⟨.call 11 [(.l 0), (.c (.int .i64 10))] [(0, 4)] true, none, none, []⟩,
    ⟨.mv (.v 1), none, none, []⟩,
    ⟨.call 11 [(.l 2), (.c (.int .i64 10))] [(1, 4)] true, none, none, []⟩,
    ⟨.mv (.l 1), some 4, none, []⟩,
    ⟨.mv (.l 3), some 5, none, []⟩]) (
  .frz [(0, true), (1, true)] (
  .seq (
  .reg [⟨.mv (.v 4), none, none, []⟩,
    ⟨.mv (.v 5), none, none, []⟩,
    ⟨.call 12 [(.l 0), (.l 1)] [(2, 1), (0, 0)] true, none, none, []⟩,
    ⟨.alloc 3 [.nils, (.int .i64 0)], some 6, none, []⟩,
    ⟨.store 2 (.l 3) (.l 2), none, none, []⟩]) (
  .frz [(2, true)] (
  .seq (
  .seq (
  .reg [⟨.mv (.v 4), none, none, []⟩,
    ⟨.mv (.v 5), none, none, []⟩,
    ⟨.load true 2 (.v 6), none, none, []⟩,
    ⟨.call 18 [(.l 0), (.l 1), (.l 2)] [(0, 0)] true, none, none, []⟩,
    ⟨.un .not (.l 3), some 10, none, []⟩]) (
  .cond (.v 10) (
   .seq (
   .reg [⟨.mv (.c (.bool false)), some 2, none, []⟩]) (
   .ret)) (
   .skip))) (
  .seq (
  .reg [⟨.mkarr 4 4 [] [], none, none, []⟩,
    ⟨.mv (.v 4), none, none, []⟩,
    ⟨.load true 2 (.v 6), none, none, []⟩,
    ⟨.call 16 [(.l 1), (.l 2)] [(5, 4)] true, none, none, []⟩,
    ⟨.append 4 4 64 2 (.l 0) (.l 3), none, none, []⟩,
    ⟨.mv (.l 4), some 7, none, []⟩]) (
  .seq (
  .seq (
  .reg [⟨.mv (.c (.int .i64 0)), some 8, none, []⟩]) (
  .block 0 (
   .loopS [3, 4, 5, 6, 7, 8] 13 (
    .seq (
    .seq (
    .reg [⟨.mv (.v 8), none, none, []⟩,
      ⟨.mv (.v 5), none, none, []⟩,
      ⟨.len false (.l 1), none, none, []⟩,
      ⟨.bin .lss false (.l 0) (.l 2), some 11, none, []⟩]) (
    .cond (.v 11) (
     .skip) (
     .exit 0))) (
    .seq (
    .block 1 (
     .seq (
     .reg [⟨.fieldAddr 0 (.v 6), none, none, []⟩,
       ⟨.load false 1 (.l 0), none, none, []⟩,
       ⟨.mv (.v 8), none, none, []⟩,
       ⟨.indexAddr 1 (.l 1) (.l 2), none, none, []⟩,
       ⟨.load false 1 (.l 3), none, none, []⟩,
       ⟨.bin .geq false (.l 4) (.c (.int .i64 0)), some 12, none, []⟩]) (
     .cond (.v 12) (
      .reg [⟨.mv (.v 7), none, none, []⟩,
        ⟨.mv (.v 5), none, none, []⟩,
        ⟨.mv (.v 8), none, none, []⟩,
        ⟨.indexAddr 4 (.l 1) (.l 2), none, none, []⟩,
        ⟨.load true 4 (.l 3), none, none, []⟩,
        ⟨.mkarr 7 4 [(.agg [(.int .i64 0), (.int .i64 0), .nils, .nils])] [(0, (.l 4))], none, none, []⟩,
        ⟨.append 8 4 64 1 (.l 0) (.l 5), none, none, []⟩,
        ⟨.mv (.l 6), some 7, none, []⟩]) (
      .skip)))) (
    .reg [⟨.mv (.v 8), none, none, []⟩,
      ⟨.bin .add false (.l 0) (.c (.int .i64 1)), none, none, []⟩,
      ⟨.mv (.l 1), some 8, none, []⟩])))))) (
  .seq (
  .seq (
  .reg [⟨.mv (.c (.int .u8 0)), some 9, none, []⟩]) (
  .block 2 (
   .loopS [3, 4, 7, 9] 13 (
    .seq (
    .seq (
    .reg [⟨.mv (.v 9), none, none, []⟩,
      ⟨.bin .lss false (.l 0) (.c (.int .u8 6)), some 13, none, []⟩]) (
    .cond (.v 13) (
     .skip) (
     .exit 2))) (
    .seq (
    .block 3 (
     .seq (
     .reg [⟨.mv (.v 7), none, none, []⟩,
       ⟨.mv (.v 9), none, none, []⟩,
       ⟨.call 23 [(.l 1)] [(0, 0), (0, 0), (9, 1), (10, 1)] true, none, none, []⟩,
       ⟨.call 21 [(.l 0), (.l 2)] [(0, 0)] true, none, none, []⟩,
       ⟨.mv (.v 4), none, none, []⟩,
       ⟨.mv (.v 9), none, none, []⟩,
       ⟨.call 23 [(.l 5)] [(0, 0), (0, 0), (11, 1), (12, 1)] true, none, none, []⟩,
       ⟨.call 21 [(.l 4), (.l 6)] [(0, 0)] true, none, none, []⟩,
       ⟨.bin .neq false (.l 3) (.l 7), some 14, none, []⟩]) (
     .cond (.v 14) (
      .seq (
      .reg [⟨.mv (.c (.bool false)), some 2, none, []⟩]) (
      .ret)) (
      .skip)))) (
    .reg [⟨.mv (.v 9), none, none, []⟩,
      ⟨.bin .add false (.l 0) (.c (.int .u8 1)), none, none, []⟩,
      ⟨.mv (.l 1), some 9, none, []⟩])))))) (
  .seq (
  .reg [⟨.mv (.v 7), none, none, []⟩,
    ⟨.len false (.l 0), none, none, []⟩,
    ⟨.mv (.v 4), none, none, []⟩,
    ⟨.len false (.l 2), none, none, []⟩,
    ⟨.bin .eql false (.l 1) (.l 3), none, none, []⟩,
    ⟨.mv (.l 4), none, none, []⟩,
    ⟨.mv (.v 3), none, some ((.l 5), true), []⟩,
    ⟨.pick (.l 5) (.l 6) (.c (.bool false)), none, none, []⟩,
    ⟨.mv (.l 7), some 2, none, []⟩]) (
  .ret)))))))))))⟩

def X7 : XFn :=
 ⟨82, [0, 1, 2, 6, 7, 8, 9, 10, 11, 12, 13, 14, 53, 57, 70], 13, [(3, none)],
  .seq (
  .reg [⟨.mv (.c (.bool false)), some 3, none, []⟩]) (
  .seq (
  .reg [⟨.call 10 [] [(0, 0)] true, none, none, []⟩,
    ⟨.mv (.l 0), some 4, none, []⟩]) (
  .seq (
  .reg [⟨.mv (.v 0), none, none, []⟩,
    ⟨.call 11 [(.l 0), (.c (.int .i64 10))] [(0, 4)] true, none, none, []⟩,
    ⟨.mv (.v 1), none, none, []⟩,
    ⟨.call 11 [(.l 2), (.c (.int .i64 8))] [(1, 4)] true, none, none, []⟩,
    ⟨.mv (.v 2), none, none, []⟩,
    ⟨.call 11 [(.l 4), (.c (.int .i64 8))] [(2, 4)] true, none, none, []⟩,
    ⟨.mv (.l 1), some 5, none, []⟩,
    ⟨.mv (.l 3), some 6, none, []⟩,
    ⟨.mv (.l 5), some 7, none, []⟩]) (
  .frz [(0, true), (1, true), (2, true)] (
  .seq (
  .reg [⟨.mv (.v 5), none, none, []⟩,
    ⟨.mv (.v 6), none, none, []⟩,
    ⟨.call 12 [(.l 0), (.l 1)] [(3, 1), (0, 0)] true, none, none, []⟩,
    ⟨.alloc 4 [.nils, (.int .i64 0)], some 8, none, []⟩,
    ⟨.store 2 (.l 3) (.l 2), none, none, []⟩]) (
  .frz [(3, true)] (
  .seq (
  .reg [⟨.mv (.v 5), none, none, []⟩,
    ⟨.load true 2 (.v 8), none, none, []⟩,
    ⟨.call 16 [(.l 0), (.l 1)] [(5, 4)] true, none, none, []⟩,
    ⟨.mv (.v 7), none, none, []⟩,
    ⟨.call 12 [(.l 2), (.l 3)] [(6, 1), (0, 0)] true, none, none, []⟩,
    ⟨.alloc 7 [.nils, (.int .i64 0)], some 9, none, []⟩,
    ⟨.store 2 (.l 5) (.l 4), none, none, []⟩]) (
  .seq (
  .reg [⟨.mv (.v 5), none, none, []⟩,
    ⟨.mkarr 8 4 [] [], none, none, []⟩,
    ⟨.mv (.v 6), none, none, []⟩,
    ⟨.append 8 4 64 2 (.l 1) (.l 2), none, none, []⟩,
    ⟨.mv (.v 7), none, none, []⟩,
    ⟨.append 8 4 64 2 (.l 3) (.l 4), none, none, []⟩,
    ⟨.call 12 [(.l 0), (.l 5)] [(11, 1), (0, 0)] true, none, none, []⟩,
    ⟨.alloc 12 [.nils, (.int .i64 0)], some 10, none, []⟩,
    ⟨.store 2 (.l 7) (.l 6), none, none, []⟩]) (
  .seq (
  .seq (
  .reg [⟨.fieldAddr 0 (.v 8), none, none, []⟩,
    ⟨.load false 1 (.l 0), none, none, []⟩,
    ⟨.len false (.l 1), none, none, []⟩,
    ⟨.mv (.v 6), none, none, []⟩,
    ⟨.len false (.l 3), none, none, []⟩,
    ⟨.bin .neq false (.l 2) (.l 4), none, none, []⟩,
    ⟨.mv (.l 5), none, none, []⟩,
    ⟨.fieldAddr 0 (.v 10), none, some ((.l 6), false), []⟩,
    ⟨.load false 1 (.l 7), none, some ((.l 6), false), []⟩,
    ⟨.len false (.l 8), none, some ((.l 6), false), []⟩,
    ⟨.mv (.v 6), none, some ((.l 6), false), []⟩,
    ⟨.len false (.l 10), none, some ((.l 6), false), []⟩,
    ⟨.mv (.v 7), none, some ((.l 6), false), []⟩,
    ⟨.len false (.l 12), none, some ((.l 6), false), []⟩,
    ⟨.bin .add false (.l 11) (.l 13), none, some ((.l 6), false), []⟩,
    ⟨.bin .neq false (.l 9) (.l 14), none, some ((.l 6), false), []⟩,
    ⟨.pick (.l 6) (.c (.bool true)) (.l 15), some 12, none, []⟩]) (
  .cond (.v 12) (
   .seq (
   .reg [⟨.mv (.c (.bool false)), some 3, none, []⟩]) (
   .ret)) (
   .skip))) (
  .seq (
  .seq (
  .reg [⟨.mv (.c (.int .i64 0)), some 11, none, []⟩]) (
  .block 0 (
   .loopS [4, 6, 8, 9, 10, 11] 13 (
    .seq (
    .seq (
    .reg [⟨.mv (.v 11), none, none, []⟩,
      ⟨.mv (.v 6), none, none, []⟩,
      ⟨.len false (.l 1), none, none, []⟩,
      ⟨.bin .lss false (.l 0) (.l 2), some 13, none, []⟩]) (
    .cond (.v 13) (
     .skip) (
     .exit 0))) (
    .seq (
    .block 1 (
     .seq (
     .reg [⟨.fieldAddr 0 (.v 8), none, none, []⟩,
       ⟨.load false 1 (.l 0), none, none, []⟩,
       ⟨.mv (.v 11), none, none, []⟩,
       ⟨.indexAddr 1 (.l 1) (.l 2), none, none, []⟩,
       ⟨.load false 1 (.l 3), none, none, []⟩,
       ⟨.fieldAddr 0 (.v 10), none, none, []⟩,
       ⟨.load false 1 (.l 5), none, none, []⟩,
       ⟨.mv (.v 11), none, none, []⟩,
       ⟨.indexAddr 1 (.l 6) (.l 7), none, none, []⟩,
       ⟨.load false 1 (.l 8), none, none, []⟩,
       ⟨.bin .neq false (.l 4) (.l 9), some 14, none, []⟩]) (
     .cond (.v 14) (
      .seq (
      .reg [⟨.mv (.c (.bool false)), some 3, none, []⟩]) (
      .ret)) (
      .skip)))) (
    .reg [⟨.mv (.v 11), none, none, []⟩,
      ⟨.bin .add false (.l 0) (.c (.int .i64 1)), none, none, []⟩,
      ⟨.mv (.l 1), some 11, none, []⟩])))))) (
  .seq (
  .reg [⟨.fieldAddr 1 (.v 8), none, none, []⟩,
    ⟨.load false 1 (.l 0), none, none, []⟩,
    ⟨.fieldAddr 1 (.v 9), none, none, []⟩,
    ⟨.load false 1 (.l 2), none, none, []⟩,
    ⟨.bin .add false (.l 1) (.l 3), none, none, []⟩,
    ⟨.fieldAddr 1 (.v 10), none, none, []⟩,
    ⟨.load false 1 (.l 5), none, none, []⟩,
    ⟨.bin .eql false (.l 4) (.l 6), none, none, []⟩,
    ⟨.mv (.l 7), none, none, []⟩,
    ⟨.mv (.v 4), none, some ((.l 8), true), []⟩,
    ⟨.pick (.l 8) (.l 9) (.c (.bool false)), none, none, []⟩,
    ⟨.mv (.l 10), some 3, none, []⟩]) (
  .ret)))))))))))⟩

def X8 : XFn :=
 ⟨91, [0, 1, 2, 6, 7, 8, 9, 10, 11, 12, 13, 27, 34, 42], 16, [(3, none)],
  .seq (
  .reg [⟨.mv (.c (.bool false)), some 3, none, []⟩]) (
  .seq (
  .reg [⟨.call 10 [] [(0, 0)] true, none, none, []⟩,
    ⟨.mv (.l 0), some 4, none, []⟩]) (
  .seq (
  .reg [⟨.mv (.v 0), none, none, []⟩,
    ⟨.call 11 [(.l 0), (.c (.int .i64 10))] [(0, 4)] true, none, none, []⟩,
    ⟨.mv (.v 1), none, none, []⟩,
    ⟨.call 11 [(.l 2), (.c (.int .i64 10))] [(1, 4)] true, none, none, []⟩,
    ⟨.mv (.l 1), some 5, none, []⟩,
    ⟨.mv (.l 3), some 6, none, []⟩]) (
  .frz [(0, true), (1, true)] (
  .seq (
  .reg [⟨.mv (.v 5), none, none, []⟩,
    ⟨.mv (.v 6), none, none, []⟩,
    ⟨.call 12 [(.l 0), (.l 1)] [(2, 1), (0, 0)] true, none, none, []⟩,
    ⟨.alloc 3 [.nils, (.int .i64 0)], some 7, none, []⟩,
    ⟨.store 2 (.l 3) (.l 2), none, none, []⟩]) (
  .seq (
  .seq (
  .reg [⟨.fieldAddr 0 (.v 7), none, none, []⟩,
    ⟨.load false 1 (.l 0), none, none, []⟩,
    ⟨.len false (.l 1), none, none, []⟩,
    ⟨.mv (.v 6), none, none, []⟩,
    ⟨.len false (.l 3), none, none, []⟩,
    ⟨.bin .neq false (.l 2) (.l 4), some 11, none, []⟩]) (
  .cond (.v 11) (
   .seq (
   .reg [⟨.mv (.c (.bool false)), some 3, none, []⟩]) (
   .ret)) (
   .skip))) (
  .seq (
  .reg [⟨.mkarr 4 4 [] [], none, none, []⟩,
    ⟨.mv (.v 5), none, none, []⟩,
    ⟨.append 4 4 64 2 (.l 0) (.l 1), none, none, []⟩,
    ⟨.mv (.l 2), some 8, none, []⟩]) (
  .seq (
  .seq (
  .reg [⟨.mv (.c (.int .i64 0)), some 9, none, []⟩]) (
  .block 0 (
   .loopS [2, 4, 5, 6, 7, 8, 9] 16 (
    .seq (
    .seq (
    .reg [⟨.mv (.v 9), none, none, []⟩,
      ⟨.mv (.v 6), none, none, []⟩,
      ⟨.len false (.l 1), none, none, []⟩,
      ⟨.bin .lss false (.l 0) (.l 2), some 12, none, []⟩]) (
    .cond (.v 12) (
     .skip) (
     .exit 0))) (
    .seq (
    .block 1 (
     .seq (
     .reg [⟨.fieldAddr 0 (.v 7), none, none, []⟩,
       ⟨.load false 1 (.l 0), none, none, []⟩,
       ⟨.mv (.v 9), none, none, []⟩,
       ⟨.indexAddr 1 (.l 1) (.l 2), none, none, []⟩,
       ⟨.load false 1 (.l 3), none, none, []⟩,
       ⟨.bin .lss false (.l 4) (.c (.int .i64 0)), some 13, none, []⟩]) (
     .cond (.v 13) (
      .reg [⟨.mv (.v 8), none, none, []⟩,
        ⟨.mv (.v 6), none, none, []⟩,
        ⟨.mv (.v 9), none, none, []⟩,
        ⟨.indexAddr 4 (.l 1) (.l 2), none, none, []⟩,
        ⟨.load true 4 (.l 3), none, none, []⟩,
        ⟨.mkarr 6 4 [(.agg [(.int .i64 0), (.int .i64 0), .nils, .nils])] [(0, (.l 4))], none, none, []⟩,
        ⟨.append 7 4 64 1 (.l 0) (.l 5), none, none, []⟩,
        ⟨.mv (.l 6), some 8, none, []⟩]) (
      .skip)))) (
    .reg [⟨.mv (.v 9), none, none, []⟩,
      ⟨.bin .add false (.l 0) (.c (.int .i64 1)), none, none, []⟩,
      ⟨.mv (.l 1), some 9, none, []⟩])))))) (
  .seq (
  .reg [⟨.mkarr 8 4 [] [], none, none, []⟩,
    ⟨.mv (.v 5), none, none, []⟩,
    ⟨.append 8 4 64 2 (.l 0) (.l 1), none, none, []⟩,
    ⟨.mv (.v 2), none, none, []⟩,
    ⟨.call 23 [(.l 3)] [(0, 0), (0, 0), (10, 1), (11, 1)] true, none, none, []⟩,
    ⟨.mkarr 12 4 [(.agg [(.int .i64 0), (.int .i64 0), .nils, .nils])] [(0, (.l 4))], none, none, []⟩,
    ⟨.append 13 4 64 1 (.l 2) (.l 5), none, none, []⟩,
    ⟨.mv (.v 6), none, none, []⟩,
    ⟨.call 12 [(.l 6), (.l 7)] [(14, 1), (0, 0)] true, none, none, []⟩,
    ⟨.field false 1 1 (.l 8), none, none, []⟩,
    ⟨.mv (.l 9), some 10, none, []⟩]) (
  .seq (
  .reg [⟨.mv (.v 8), none, none, []⟩,
    ⟨.mv (.v 6), none, none, []⟩,
    ⟨.call 12 [(.l 0), (.l 1)] [(15, 1), (0, 0)] true, none, none, []⟩,
    ⟨.field false 1 1 (.l 2), none, none, []⟩,
    ⟨.bin .eql false (.l 3) (.c (.int .i64 0)), none, none, []⟩,
    ⟨.mv (.l 4), none, none, []⟩,
    ⟨.mv (.v 10), none, some ((.l 5), true), []⟩,
    ⟨.fieldAddr 1 (.v 7), none, some ((.l 5), true), []⟩,
    ⟨.load false 1 (.l 7), none, some ((.l 5), true), []⟩,
    ⟨.bin .leq false (.l 6) (.l 8), none, some ((.l 5), true), []⟩,
    ⟨.pick (.l 5) (.l 9) (.c (.bool false)), none, none, []⟩,
    ⟨.mv (.l 10), none, none, []⟩,
    ⟨.mv (.v 10), none, some ((.l 11), true), []⟩,
    ⟨.fieldAddr 1 (.v 7), none, some ((.l 11), true), []⟩,
    ⟨.load false 1 (.l 13), none, some ((.l 11), true), []⟩,
    ⟨.bin .sub false (.l 14) (.c (.int .i64 1)), none, some ((.l 11), true), []⟩,
    ⟨.bin .geq false (.l 12) (.l 15), none, some ((.l 11), true), []⟩,
    ⟨.pick (.l 11) (.l 16) (.c (.bool false)), none, none, []⟩,
    ⟨.mv (.l 17), none, none, []⟩,
    ⟨.mv (.v 8), none, some ((.l 18), true), []⟩,
    ⟨.len false (.l 19), none, some ((.l 18), true), []⟩,
    ⟨.mv (.v 5), none, some ((.l 18), true), []⟩,
    ⟨.len false (.l 21), none, some ((.l 18), true), []⟩,
    ⟨.fieldAddr 1 (.v 7), none, some ((.l 18), true), []⟩,
    ⟨.load false 1 (.l 23), none, some ((.l 18), true), []⟩,
    ⟨.bin .add false (.l 22) (.l 24), none, some ((.l 18), true), []⟩,
    ⟨.bin .eql false (.l 20) (.l 25), none, some ((.l 18), true), []⟩,
    ⟨.pick (.l 18) (.l 26) (.c (.bool false)), none, none, []⟩,
    ⟨.mv (.l 27), none, none, []⟩,
    ⟨.mv (.v 4), none, some ((.l 28), true), []⟩,
    ⟨.pick (.l 28) (.l 29) (.c (.bool false)), none, none, []⟩,
    ⟨.mv (.l 30), some 3, none, []⟩]) (
  .ret))))))))))⟩

def X9 : XFn :=
 ⟨117, [0, 1, 2, 6, 7, 8, 9, 10, 11, 12, 13, 14, 31, 46, 65], 10, [(3, none)],
  .seq (
  .reg [⟨.mv (.c (.bool false)), some 3, none, []⟩]) (
  .seq (
  .reg [⟨.call 10 [] [(0, 0)] true, none, none, []⟩,
    ⟨.mv (.l 0), some 4, none, []⟩]) (
  .seq (
  .reg [⟨.mv (.v 0), none, none, []⟩,
    ⟨.call 11 [(.l 0), (.c (.int .i64 10))] [(0, 4)] true, none, none, []⟩,
    ⟨.mv (.v 1), none, none, []⟩,
    ⟨.call 11 [(.l 2), (.c (.int .i64 10))] [(1, 4)] true, none, none, []⟩,
    ⟨.mv (.l 1), some 5, none, []⟩,
    ⟨.mv (.l 3), some 6, none, []⟩]) (
  .frz [(0, true), (1, true)] (
  .seq (
  .reg [⟨.mv (.v 5), none, none, []⟩,
    ⟨.mv (.v 6), none, none, []⟩,
    ⟨.call 13 [(.l 0), (.l 1)] [(2, 1), (0, 0)] true, none, none, []⟩,
    ⟨.build [.nils, (.int .i64 0)] [], none, none, []⟩,
    ⟨.alloc 3 [.nils, (.int .i64 0)], some 7, none, []⟩,
    ⟨.alloc 4 [.nils, (.int .i64 0)], some 8, none, []⟩,
    ⟨.store 2 (.l 4) (.l 2), none, none, []⟩,
    ⟨.store 2 (.l 5) (.l 3), none, none, []⟩]) (
  .seq (
  .seq (
  .reg [⟨.mv (.c (.int .i64 0)), some 9, none, []⟩]) (
  .block 0 (
   .loopS [2, 4, 5, 6, 7, 8, 9] 10 (
    .seq (
    .seq (
    .reg [⟨.mv (.v 9), none, none, []⟩,
      ⟨.mv (.v 2), none, none, []⟩,
      ⟨.len false (.l 1), none, none, []⟩,
      ⟨.bin .lss false (.l 0) (.l 2), none, none, []⟩,
      ⟨.mv (.l 3), none, none, []⟩,
      ⟨.mv (.v 9), none, some ((.l 4), true), []⟩,
      ⟨.bin .lss false (.l 5) (.c (.int .i64 12)), none, some ((.l 4), true), []⟩,
      ⟨.pick (.l 4) (.l 6) (.c (.bool false)), some 12, none, []⟩]) (
    .cond (.v 12) (
     .skip) (
     .exit 0))) (
    .seq (
    .block 1 (
     .seq (
     .reg [⟨.mv (.v 2), none, none, []⟩,
       ⟨.mv (.v 9), none, none, []⟩,
       ⟨.indexAddr 1 (.l 0) (.l 1), none, none, []⟩,
       ⟨.load false 1 (.l 2), none, none, []⟩,
       ⟨.conv .i64 (.l 3), none, none, []⟩,
       ⟨.mv (.l 4), some 10, none, []⟩]) (
     .seq (
     .reg [⟨.fieldAddr 0 (.v 8), none, none, []⟩,
       ⟨.load false 1 (.l 0), none, none, []⟩,
       ⟨.mv (.v 10), none, none, []⟩,
       ⟨.mkarr 5 1 [(.int .i64 0)] [(0, (.l 2))], none, none, []⟩,
       ⟨.append 6 1 8 1 (.l 1) (.l 3), none, none, []⟩,
       ⟨.fieldAddr 0 (.v 8), none, none, []⟩,
       ⟨.store 1 (.l 5) (.l 4), none, none, []⟩]) (
     .seq (
     .reg [⟨.mv (.v 10), none, none, []⟩,
       ⟨.bin .eql false (.l 0) (.c (.int .i64 (-1))), some 13, none, []⟩]) (
     .cond (.v 13) (
      .reg [⟨.fieldAddr 1 (.v 8), none, none, []⟩,
        ⟨.load false 1 (.l 0), none, none, []⟩,
        ⟨.bin .add false (.l 1) (.c (.int .i64 1)), none, none, []⟩,
        ⟨.fieldAddr 1 (.v 8), none, none, []⟩,
        ⟨.store 1 (.l 3) (.l 2), none, none, []⟩]) (
      .skip)))))) (
    .reg [⟨.mv (.v 9), none, none, []⟩,
      ⟨.bin .add false (.l 0) (.c (.int .i64 1)), none, none, []⟩,
      ⟨.mv (.l 1), some 9, none, []⟩])))))) (
  .seq (
  .reg [⟨.mkarr 7 1 [] [], none, none, [9]⟩,
    ⟨.fieldAddr 0 (.v 7), none, none, [7, 9]⟩,
    ⟨.load false 1 (.l 1), none, none, [7, 9]⟩,
    ⟨.append 7 1 8 2 (.l 0) (.l 2), none, none, [9]⟩,
    ⟨.fieldAddr 1 (.v 7), none, none, [7, 7, 9]⟩,
    ⟨.load false 1 (.l 4), none, none, [7, 7, 9]⟩,
    ⟨.build [.nils, (.int .i64 0)] [(0, 1, (.l 3)), (1, 1, (.l 5))], none, none, [9]⟩,
    ⟨.alloc 9 [.nils, (.int .i64 0)], some 11, none, [7, 7]⟩,
    ⟨.store 2 (.l 7) (.l 6), none, none, []⟩]) (
  .seq (
  .seq (
  .reg [⟨.mv (.v 6), none, none, []⟩,
    ⟨.len false (.l 0), none, none, []⟩,
    ⟨.bin .gtr false (.l 1) (.c (.int .i64 0)), none, none, []⟩,
    ⟨.mv (.l 2), none, none, []⟩,
    ⟨.mv (.v 2), none, some ((.l 3), true), []⟩,
    ⟨.len false (.l 4), none, some ((.l 3), true), []⟩,
    ⟨.bin .gtr false (.l 5) (.c (.int .i64 1)), none, some ((.l 3), true), []⟩,
    ⟨.pick (.l 3) (.l 6) (.c (.bool false)), some 14, none, []⟩]) (
  .cond (.v 14) (
   .seq (
   .reg [⟨.fieldAddr 0 (.v 11), none, none, []⟩,
     ⟨.load false 1 (.l 0), none, none, []⟩,
     ⟨.mv (.v 2), none, none, []⟩,
     ⟨.indexAddr 1 (.l 2) (.c (.int .i64 0)), none, none, []⟩,
     ⟨.load false 1 (.l 3), none, none, []⟩,
     ⟨.conv .u8 (.l 4), none, none, []⟩,
     ⟨.conv .i64 (.l 5), none, none, []⟩,
     ⟨.mv (.v 6), none, none, []⟩,
     ⟨.len false (.l 7), none, none, []⟩,
     ⟨.bin .rem false (.l 6) (.l 8), none, none, []⟩,
     ⟨.mv (.v 2), none, none, []⟩,
     ⟨.indexAddr 1 (.l 10) (.c (.int .i64 1)), none, none, []⟩,
     ⟨.load false 1 (.l 11), none, none, []⟩,
     ⟨.conv .i64 (.l 12), none, none, []⟩,
     ⟨.indexAddr 1 (.l 1) (.l 9), none, none, []⟩,
     ⟨.store 1 (.l 14) (.l 13), none, none, []⟩]) (
   .reg [⟨.fieldAddr 1 (.v 11), none, none, []⟩,
     ⟨.load false 1 (.l 0), none, none, []⟩,
     ⟨.mv (.v 2), none, none, []⟩,
     ⟨.len false (.l 2), none, none, []⟩,
     ⟨.bin .rem false (.l 3) (.c (.int .i64 3)), none, none, []⟩,
     ⟨.bin .add false (.l 1) (.l 4), none, none, []⟩,
     ⟨.fieldAddr 1 (.v 11), none, none, []⟩,
     ⟨.store 1 (.l 6) (.l 5), none, none, []⟩])) (
   .skip))) (
  .seq (
  .reg [⟨.mv (.v 5), none, none, []⟩,
    ⟨.mv (.v 6), none, none, []⟩,
    ⟨.load true 2 (.v 7), none, none, []⟩,
    ⟨.call 19 [(.l 0), (.l 1), (.l 2)] [(0, 0)] false, none, none, []⟩,
    ⟨.mv (.l 3), none, none, []⟩,
    ⟨.mv (.v 5), none, some ((.l 4), true), []⟩,
    ⟨.mv (.v 6), none, some ((.l 4), true), []⟩,
    ⟨.load true 2 (.v 8), none, some ((.l 4), true), []⟩,
    ⟨.call 19 [(.l 5), (.l 6), (.l 7)] [(0, 0)] false, none, some ((.l 4), true), []⟩,
    ⟨.mv (.v 5), none, some ((.l 4), true), []⟩,
    ⟨.mv (.v 6), none, some ((.l 4), true), []⟩,
    ⟨.load true 2 (.v 8), none, some ((.l 4), true), []⟩,
    ⟨.call 18 [(.l 9), (.l 10), (.l 11)] [(0, 0)] false, none, some ((.l 4), true), []⟩,
    ⟨.bin .eql true (.l 8) (.l 12), none, some ((.l 4), true), []⟩,
    ⟨.pick (.l 4) (.l 13) (.c (.bool false)), none, none, []⟩,
    ⟨.mv (.l 14), none, none, []⟩,
    ⟨.mv (.v 5), none, some ((.l 15), true), []⟩,
    ⟨.mv (.v 6), none, some ((.l 15), true), []⟩,
    ⟨.load true 2 (.v 11), none, some ((.l 15), true), []⟩,
    ⟨.call 19 [(.l 16), (.l 17), (.l 18)] [(0, 0)] false, none, some ((.l 15), true), []⟩,
    ⟨.mv (.v 5), none, some ((.l 15), true), []⟩,
    ⟨.mv (.v 6), none, some ((.l 15), true), []⟩,
    ⟨.load true 2 (.v 11), none, some ((.l 15), true), []⟩,
    ⟨.call 18 [(.l 20), (.l 21), (.l 22)] [(0, 0)] false, none, some ((.l 15), true), []⟩,
    ⟨.bin .eql true (.l 19) (.l 23), none, some ((.l 15), true), []⟩,
    ⟨.pick (.l 15) (.l 24) (.c (.bool false)), none, none, []⟩,
    ⟨.mv (.l 25), none, none, []⟩,
    ⟨.mv (.v 4), none, some ((.l 26), true), []⟩,
    ⟨.pick (.l 26) (.l 27) (.c (.bool false)), none, none, []⟩,
    ⟨.mv (.l 28), some 3, none, []⟩]) (
  .ret)))))))))⟩

def X10 : XFn :=
 ⟨83, [0, 1, 2, 3, 4, 5, 6, 7, 8], 17, [(0, none)],
  .seq (
  .reg [⟨.mv (.c (.bool false)), some 0, none, []⟩]) (
  .seq (
  .reg [⟨.call 23 [(.c (.int .u8 0))] [(0, 0), (0, 0), (0, 1), (1, 1)] true, none, none, []⟩,
    ⟨.call 23 [(.c (.int .u8 1))] [(0, 0), (0, 0), (2, 1), (3, 1)] true, none, none, []⟩,
    ⟨.call 23 [(.c (.int .u8 2))] [(0, 0), (0, 0), (4, 1), (5, 1)] true, none, none, []⟩,
    ⟨.alloc 6 [(.int .i64 0), (.int .i64 0), .nils, .nils], some 1, none, []⟩,
    ⟨.alloc 7 [(.int .i64 0), (.int .i64 0), .nils, .nils], some 2, none, []⟩,
    ⟨.alloc 8 [(.int .i64 0), (.int .i64 0), .nils, .nils], some 3, none, []⟩,
    ⟨.store 4 (.l 3) (.l 0), none, none, []⟩,
    ⟨.store 4 (.l 4) (.l 1), none, none, []⟩,
    ⟨.store 4 (.l 5) (.l 2), none, none, []⟩]) (
  .frz [(0, true), (1, true), (2, true), (3, true), (4, true), (5, true), (6, true), (7, true), (8, true)] (
  .seq (
  .reg [⟨.load true 4 (.v 1), none, none, []⟩,
    ⟨.load true 4 (.v 2), none, none, []⟩,
    ⟨.load true 4 (.v 1), none, none, []⟩,
    ⟨.mkarr 9 4 [(.agg [(.int .i64 0), (.int .i64 0), .nils, .nils]), (.agg [(.int .i64 0), (.int .i64 0), .nils, .nils]), (.agg [(.int .i64 0), (.int .i64 0), .nils, .nils])] [(0, (.l 0)), (1, (.l 1)), (2, (.l 2))], none, none, []⟩,
    ⟨.mv (.l 3), some 4, none, []⟩]) (
  .frz [(9, true)] (
  .seq (
  .reg [⟨.mv (.v 4), none, none, []⟩,
    ⟨.load true 4 (.v 1), none, none, []⟩,
    ⟨.load true 4 (.v 1), none, none, []⟩,
    ⟨.load true 4 (.v 1), none, none, []⟩,
    ⟨.load true 4 (.v 3), none, none, []⟩,
    ⟨.lit 4 [(.agg [(.int .i64 0), (.int .i64 0), .nils, .nils]), (.agg [(.int .i64 0), (.int .i64 0), .nils, .nils]), (.agg [(.int .i64 0), (.int .i64 0), .nils, .nils]), (.agg [(.int .i64 0), (.int .i64 0), .nils, .nils])] [(0, (.l 1)), (1, (.l 2)), (2, (.l 3)), (3, (.l 4))], none, none, []⟩,
    ⟨.call 12 [(.l 0), (.l 5)] [(10, 1), (0, 0)] true, none, none, []⟩,
    ⟨.alloc 11 [.nils, (.int .i64 0)], some 5, none, []⟩,
    ⟨.store 2 (.l 7) (.l 6), none, none, []⟩]) (
  .seq (
  .reg [⟨.load true 2 (.v 5), none, none, []⟩,
    ⟨.lit 1 [(.int .i64 0), (.int .i64 0), (.int .i64 0), (.int .i64 0)] [(0, (.c (.int .i64 0))), (1, (.c (.int .i64 2))), (2, (.c (.int .i64 (-1)))), (3, (.c (.int .i64 (-1))))], none, none, []⟩,
    ⟨.build [.nils, (.int .i64 0)] [(0, 1, (.l 1)), (1, 1, (.c (.int .i64 2)))], none, none, []⟩,
    ⟨.call 14 [(.l 0), (.l 2)] [(0, 0)] false, none, none, []⟩,
    ⟨.mv (.l 3), none, none, []⟩,
    ⟨.mv (.v 4), none, some ((.l 4), true), []⟩,
    ⟨.lit 1 [(.int .i64 0), (.int .i64 0), (.int .i64 0), (.int .i64 0)] [(0, (.c (.int .i64 0))), (1, (.c (.int .i64 2))), (2, (.c (.int .i64 (-1)))), (3, (.c (.int .i64 (-1))))], none, some ((.l 4), true), []⟩,
    ⟨.build [.nils, (.int .i64 0)] [(0, 1, (.l 6)), (1, 1, (.c (.int .i64 2)))], none, some ((.l 4), true), []⟩,
    ⟨.call 16 [(.l 5), (.l 7)] [(12, 4)] false, none, some ((.l 4), true), []⟩,
    ⟨.load true 4 (.v 2), none, some ((.l 4), true), [12]⟩,
    ⟨.lit 4 [(.agg [(.int .i64 0), (.int .i64 0), .nils, .nils])] [(0, (.l 9))], none, some ((.l 4), true), [12]⟩,
    ⟨.call 15 [(.l 8), (.l 10)] [(0, 0)] false, none, some ((.l 4), true), []⟩,
    ⟨.pick (.l 4) (.l 11) (.c (.bool false)), none, none, []⟩,
    ⟨.mv (.l 12), some 6, none, []⟩]) (
  .seq (
  .reg [⟨.load true 4 (.v 1), none, none, [14]⟩,
    ⟨.load true 4 (.v 2), none, none, [14]⟩,
    ⟨.mkarr 13 4 [(.agg [(.int .i64 0), (.int .i64 0), .nils, .nils]), (.agg [(.int .i64 0), (.int .i64 0), .nils, .nils])] [(0, (.l 0)), (1, (.l 1))], none, none, [14]⟩,
    ⟨.load true 4 (.v 1), none, none, [13]⟩,
    ⟨.mkarr 14 4 [(.agg [(.int .i64 0), (.int .i64 0), .nils, .nils])] [(0, (.l 3))], none, none, [13]⟩,
    ⟨.mv (.l 2), some 7, none, [14]⟩,
    ⟨.mv (.l 4), some 8, none, []⟩]) (
  .frz [(13, true)] (
  .seq (
  .reg [⟨.mv (.v 6), none, none, []⟩,
    ⟨.mv (.l 0), none, none, []⟩,
    ⟨.mv (.v 7), none, some ((.l 1), true), []⟩,
    ⟨.mv (.v 8), none, some ((.l 1), true), []⟩,
    ⟨.lit 1 [(.int .i64 0)] [(0, (.c (.int .i64 1)))], none, some ((.l 1), true), []⟩,
    ⟨.build [.nils, (.int .i64 0)] [(0, 1, (.l 4))], none, some ((.l 1), true), []⟩,
    ⟨.call 19 [(.l 2), (.l 3), (.l 5)] [(0, 0)] true, none, some ((.l 1), true), []⟩,
    ⟨.un .not (.l 6), none, some ((.l 1), true), []⟩,
    ⟨.pick (.l 1) (.l 7) (.c (.bool false)), none, none, []⟩,
    ⟨.mv (.l 8), none, none, []⟩,
    ⟨.mv (.v 7), none, some ((.l 9), true), []⟩,
    ⟨.mv (.v 8), none, some ((.l 9), true), []⟩,
    ⟨.lit 1 [(.int .i64 0)] [(0, (.c (.int .i64 (-1))))], none, some ((.l 9), true), []⟩,
    ⟨.build [.nils, (.int .i64 0)] [(0, 1, (.l 12)), (1, 1, (.c (.int .i64 1)))], none, some ((.l 9), true), []⟩,
    ⟨.call 19 [(.l 10), (.l 11), (.l 13)] [(0, 0)] true, none, some ((.l 9), true), []⟩,
    ⟨.pick (.l 9) (.l 14) (.c (.bool false)), none, none, []⟩,
    ⟨.mv (.l 15), none, none, []⟩,
    ⟨.mv (.v 7), none, some ((.l 16), true), []⟩,
    ⟨.mv (.v 8), none, some ((.l 16), true), []⟩,
    ⟨.lit 1 [(.int .i64 0)] [(0, (.c (.int .i64 (-1))))], none, some ((.l 16), true), []⟩,
    ⟨.build [.nils, (.int .i64 0)] [(0, 1, (.l 19))], none, some ((.l 16), true), []⟩,
    ⟨.call 19 [(.l 17), (.l 18), (.l 20)] [(0, 0)] true, none, some ((.l 16), true), []⟩,
    ⟨.un .not (.l 21), none, some ((.l 16), true), []⟩,
    ⟨.pick (.l 16) (.l 22) (.c (.bool false)), none, none, []⟩,
    ⟨.mv (.l 23), none, none, []⟩,
    ⟨.build [.nils, (.int .i64 0)] [], none, some ((.l 24), true), []⟩,
    ⟨.call 19 [(.c .nils), (.c .nils), (.l 25)] [(0, 0)] true, none, some ((.l 24), true), []⟩,
    ⟨.pick (.l 24) (.l 26) (.c (.bool false)), none, none, []⟩,
    ⟨.mv (.l 27), none, none, []⟩,
    ⟨.mv (.v 8), none, some ((.l 28), true), []⟩,
    ⟨.call 12 [(.c .nils), (.l 29)] [(15, 1), (0, 0)] true, none, some ((.l 28), true), []⟩,
    ⟨.field false 1 1 (.l 30), none, some ((.l 28), true), []⟩,
    ⟨.bin .eql false (.l 31) (.c (.int .i64 1)), none, some ((.l 28), true), []⟩,
    ⟨.pick (.l 28) (.l 32) (.c (.bool false)), none, none, []⟩,
    ⟨.mv (.l 33), none, none, []⟩,
    ⟨.mv (.v 7), none, some ((.l 34), true), []⟩,
    ⟨.lit 1 [(.int .i64 0), (.int .i64 0)] [(0, (.c (.int .i64 5))), (1, (.c (.int .i64 (-2))))], none, some ((.l 34), true), []⟩,
    ⟨.build [.nils, (.int .i64 0)] [(0, 1, (.l 36))], none, some ((.l 34), true), []⟩,
    ⟨.call 16 [(.l 35), (.l 37)] [(16, 4)] true, none, some ((.l 34), true), []⟩,
    ⟨.len false (.l 38), none, some ((.l 34), true), []⟩,
    ⟨.bin .eql false (.l 39) (.c (.int .i64 2)), none, some ((.l 34), true), []⟩,
    ⟨.pick (.l 34) (.l 40) (.c (.bool false)), none, none, []⟩,
    ⟨.mv (.l 41), some 0, none, []⟩]) (
  .ret))))))))))⟩


theorem c3 : compFn Try.prog 3 = some { X3 with body := strip X3.body } := by kernel_rfl
theorem c4 : compFn Try.prog 4 = some { X4 with body := strip X4.body } := by kernel_rfl
theorem c5 : compFn Try.prog 5 = some { X5 with body := strip X5.body } := by kernel_rfl
theorem c6 : compFn Try.prog 6 = some { X6 with body := strip X6.body } := by kernel_rfl
theorem c7 : compFn Try.prog 7 = some { X7 with body := strip X7.body } := by kernel_rfl
theorem c8 : compFn Try.prog 8 = some { X8 with body := strip X8.body } := by kernel_rfl
theorem c9 : compFn Try.prog 9 = some { X9 with body := strip X9.body } := by kernel_rfl
theorem c10 : compFn Try.prog 10 = some { X10 with body := strip X10.body } := by kernel_rfl
end Go.Proofs.Yteafgpjhgefiiaa.S
