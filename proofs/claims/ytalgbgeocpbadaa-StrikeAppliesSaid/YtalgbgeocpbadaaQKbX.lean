/-
  Chapter 26: the functions, as the machine takes them (printed).
-/
import Derived.Test.YtalgbgeocpbadaaProg
import Derived.KernelRfl
import Derived.Test.YtalgbgeocpbadaaMg4
namespace Go.Proofs.Ytalgbgeocpbadaa.K
set_option linter.unusedSimpArgs false
set_option linter.unusedVariables false
set_option linter.unusedSectionVars false
open Go.Proofs.Ytalgbgeocpbadaa.Am
theorem mixed : Try.prog.follows .mixedOrders = true := by kernel_rfl
def X10 : XFn :=
 ⟨50, [0, 1, 2, 4, 5, 6, 7, 8, 14, 17, 19, 20, 21, 38, 39], 8, [(3, none), (4, none)],
  .seq (
  .reg [⟨.box 0 (.v 0), some 2, none, []⟩,
    ⟨.mv (.c .nils), some 3, none, []⟩,
    ⟨.mv (.c (.int .i64 0)), some 4, none, []⟩]) (
  .seq (
  .seq (
  .reg [⟨.mv (.v 1), none, none, []⟩,
    ⟨.bin .lss false (.l 0) (.c (.int .i64 1)), none, none, []⟩,
    ⟨.mv (.l 1), none, none, []⟩,
    ⟨.mv (.v 1), none, some ((.l 2), false), []⟩,
    ⟨.bin .gtr false (.l 3) (.c (.int .i64 64)), none, some ((.l 2), false), []⟩,
    ⟨.pick (.l 2) (.c (.bool true)) (.l 4), some 8, none, []⟩]) (
  .cond (.v 8) (
   .seq (
   .reg [⟨.mv (.c .nils), some 3, none, []⟩,
     ⟨.mv (.c (.int .i64 1)), some 4, none, []⟩]) (
   .ret)) (
   .skip))) (
  .seq (
  .seq (
  .reg [⟨.load true 4 (.v 2), none, none, []⟩,
    ⟨.call 24 [(.l 0)] [(0, 0)] true, none, none, []⟩,
    ⟨.un .not (.l 1), some 9, none, []⟩]) (
  .cond (.v 9) (
   .seq (
   .reg [⟨.mv (.c .nils), some 3, none, []⟩,
     ⟨.mv (.c (.int .i64 250)), some 4, none, []⟩]) (
   .ret)) (
   .skip))) (
  .seq (
  .reg [⟨.alloc 1 [.nils], some 5, none, []⟩]) (
  .mat 5 (some 0) 7 3 (
  .seq (
  .seq (
  .reg [⟨.fieldAddr 1 (.v 2), none, none, []⟩,
    ⟨.load false 1 (.l 0), some 10, none, []⟩,
    ⟨.mv (.c (.int .i64 0)), some 11, none, []⟩]) (
  .block 0 (
   .loopS [1, 2, 5, 10, 11] 8 (
    .seq (
    .reg [⟨.bin .lss false (.v 11) (.v 10), some 12, none, []⟩]) (
    .seq (
    .cond (.v 12) (
     .skip) (
     .exit 0)) (
    .seq (
    .block 1 (
     .seq (
     .reg [⟨.mv (.v 11), none, none, []⟩,
       ⟨.alloc 2 [(.int .i64 0)], some 6, none, []⟩,
       ⟨.store 1 (.l 1) (.l 0), none, none, []⟩]) (
     .seq (
     .reg [⟨.fieldAddr 0 (.v 2), none, none, []⟩,
       ⟨.load false 1 (.l 0), none, none, []⟩,
       ⟨.fieldAddr 2 (.v 2), none, none, []⟩,
       ⟨.load false 1 (.l 2), none, none, []⟩,
       ⟨.load false 1 (.v 6), none, none, []⟩,
       ⟨.indexAddr 1 (.l 3) (.l 4), none, none, []⟩,
       ⟨.load false 1 (.l 5), none, none, []⟩,
       ⟨.fieldAddr 3 (.v 2), none, none, []⟩,
       ⟨.load false 1 (.l 7), none, none, []⟩,
       ⟨.load false 1 (.v 6), none, none, []⟩,
       ⟨.indexAddr 1 (.l 8) (.l 9), none, none, []⟩,
       ⟨.load false 1 (.l 10), none, none, []⟩,
       ⟨.lit 1 [.nils, .nils] [(0, (.l 6)), (1, (.l 11))], none, none, []⟩,
       ⟨.call 26 [(.l 1), (.l 12)] [(3, 1)] false, none, none, []⟩,
       ⟨.mv (.v 1), none, none, [3]⟩,
       ⟨.callv (.c (.fn (.func 25) [] [])) [(.l 13), (.l 14)], some 13, none, []⟩]) (
     .block 2 (
      .rfor (.v 13) [(some 14)] (
       .reg [⟨.mv (.v 14), some 7, none, []⟩]) (
       .block 3 (
  .frz [(10, false)] (
        .reg [⟨.load false 1 (.v 5), none, none, [4, 5, 6]⟩,
          ⟨.load false 1 (.v 6), none, none, []⟩,
          ⟨.fieldAddr 0 (.v 2), none, none, []⟩,
          ⟨.load false 1 (.l 2), none, none, []⟩,
          ⟨.mv (.v 7), none, none, []⟩,
          ⟨.call 27 [(.l 1), (.l 3), (.l 4)] [(0, 0), (4, 1), (5, 1)] false, none, none, []⟩,
          ⟨.mkarr 6 3 [(.agg [(.int .i64 0), .nils, .nils])] [(0, (.l 5))], none, none, []⟩,
          ⟨.append 7 3 56 1 (.l 0) (.l 6), none, none, []⟩,
          ⟨.store 1 (.v 5) (.l 7), none, none, []⟩])))))))) (
  .frz [(10, false)] (
    .reg [⟨.bin .add false (.v 11) (.c (.int .i64 1)), none, none, []⟩,
      ⟨.mv (.l 0), some 11, none, []⟩])))))))) (
  .seq (
  .reg [⟨.load false 1 (.v 5), none, none, []⟩,
    ⟨.mv (.l 0), some 3, none, []⟩,
    ⟨.mv (.c (.int .i64 0)), some 4, none, []⟩]) (
  .ret)))))))⟩

def X21 : XFn :=
 ⟨53, [0, 1, 2, 36], 1, [(2, none)],
  .seq (
  .reg [⟨.box 0 (.v 0), some 1, none, []⟩,
    ⟨.mv (.c (.bool false)), some 2, none, []⟩]) (
  .seq (
  .seq (
  .reg [⟨.fieldAddr 0 (.v 1), none, none, []⟩,
    ⟨.load false 1 (.l 0), none, none, []⟩,
    ⟨.bin .rem false (.l 1) (.c (.int .i64 2)), none, none, []⟩,
    ⟨.bin .neq false (.l 2) (.c (.int .i64 0)), none, none, []⟩,
    ⟨.mv (.l 3), none, none, []⟩,
    ⟨.fieldAddr 0 (.v 1), none, some ((.l 4), false), []⟩,
    ⟨.load false 1 (.l 5), none, some ((.l 4), false), []⟩,
    ⟨.bin .quo false (.l 6) (.c (.int .i64 2)), none, some ((.l 4), false), []⟩,
    ⟨.bin .lss false (.l 7) (.c (.int .i64 24)), none, some ((.l 4), false), []⟩,
    ⟨.pick (.l 4) (.c (.bool true)) (.l 8), none, none, []⟩,
    ⟨.mv (.l 9), none, none, []⟩,
    ⟨.fieldAddr 0 (.v 1), none, some ((.l 10), false), []⟩,
    ⟨.load false 1 (.l 11), none, some ((.l 10), false), []⟩,
    ⟨.bin .quo false (.l 12) (.c (.int .i64 2)), none, some ((.l 10), false), []⟩,
    ⟨.bin .gtr false (.l 13) (.c (.int .i64 60)), none, some ((.l 10), false), []⟩,
    ⟨.pick (.l 10) (.c (.bool true)) (.l 14), none, none, []⟩,
    ⟨.mv (.l 15), none, none, []⟩,
    ⟨.fieldAddr 1 (.v 1), none, some ((.l 16), false), []⟩,
    ⟨.load false 1 (.l 17), none, some ((.l 16), false), []⟩,
    ⟨.bin .rem false (.l 18) (.c (.int .i64 3)), none, some ((.l 16), false), []⟩,
    ⟨.bin .neq false (.l 19) (.c (.int .i64 0)), none, some ((.l 16), false), []⟩,
    ⟨.pick (.l 16) (.c (.bool true)) (.l 20), none, none, []⟩,
    ⟨.mv (.l 21), none, none, []⟩,
    ⟨.fieldAddr 1 (.v 1), none, some ((.l 22), false), []⟩,
    ⟨.load false 1 (.l 23), none, some ((.l 22), false), []⟩,
    ⟨.bin .quo false (.l 24) (.c (.int .i64 3)), none, some ((.l 22), false), []⟩,
    ⟨.bin .lss false (.l 25) (.c (.int .i64 4)), none, some ((.l 22), false), []⟩,
    ⟨.pick (.l 22) (.c (.bool true)) (.l 26), none, none, []⟩,
    ⟨.mv (.l 27), none, none, []⟩,
    ⟨.fieldAddr 1 (.v 1), none, some ((.l 28), false), []⟩,
    ⟨.load false 1 (.l 29), none, some ((.l 28), false), []⟩,
    ⟨.bin .quo false (.l 30) (.c (.int .i64 3)), none, some ((.l 28), false), []⟩,
    ⟨.bin .gtr false (.l 31) (.c (.int .i64 40)), none, some ((.l 28), false), []⟩,
    ⟨.pick (.l 28) (.c (.bool true)) (.l 32), some 3, none, []⟩]) (
  .cond (.v 3) (
   .seq (
   .reg [⟨.mv (.c (.bool false)), some 2, none, []⟩]) (
   .ret)) (
   .skip))) (
  .seq (
  .reg [⟨.fieldAddr 2 (.v 1), none, none, []⟩,
    ⟨.load false 1 (.l 0), none, none, []⟩,
    ⟨.fieldAddr 0 (.v 1), none, none, []⟩,
    ⟨.load false 1 (.l 2), none, none, []⟩,
    ⟨.fieldAddr 1 (.v 1), none, none, []⟩,
    ⟨.load false 1 (.l 4), none, none, []⟩,
    ⟨.call 33 [(.l 1), (.l 3), (.l 5)] [(0, 0)] true, none, none, []⟩,
    ⟨.mv (.l 6), none, none, []⟩,
    ⟨.fieldAddr 3 (.v 1), none, some ((.l 7), true), []⟩,
    ⟨.load false 1 (.l 8), none, some ((.l 7), true), []⟩,
    ⟨.fieldAddr 0 (.v 1), none, some ((.l 7), true), []⟩,
    ⟨.load false 1 (.l 10), none, some ((.l 7), true), []⟩,
    ⟨.fieldAddr 1 (.v 1), none, some ((.l 7), true), []⟩,
    ⟨.load false 1 (.l 12), none, some ((.l 7), true), []⟩,
    ⟨.call 33 [(.l 9), (.l 11), (.l 13)] [(0, 0)] true, none, some ((.l 7), true), []⟩,
    ⟨.pick (.l 7) (.l 14) (.c (.bool false)), none, none, []⟩,
    ⟨.mv (.l 15), some 2, none, []⟩]) (
  .ret)))⟩

def X24 : XFn :=
 ⟨51, [0, 1, 2, 18, 34], 1, [(2, none)],
  .seq (
  .reg [⟨.box 0 (.v 0), some 1, none, []⟩,
    ⟨.mv (.c (.bool false)), some 2, none, []⟩]) (
  .seq (
  .seq (
  .reg [⟨.fieldAddr 0 (.v 1), none, none, []⟩,
    ⟨.load false 1 (.l 0), none, none, []⟩,
    ⟨.bin .rem false (.l 1) (.c (.int .i64 2)), none, none, []⟩,
    ⟨.bin .neq false (.l 2) (.c (.int .i64 0)), none, none, []⟩,
    ⟨.mv (.l 3), none, none, []⟩,
    ⟨.fieldAddr 0 (.v 1), none, some ((.l 4), false), []⟩,
    ⟨.load false 1 (.l 5), none, some ((.l 4), false), []⟩,
    ⟨.bin .quo false (.l 6) (.c (.int .i64 2)), none, some ((.l 4), false), []⟩,
    ⟨.bin .lss false (.l 7) (.c (.int .i64 24)), none, some ((.l 4), false), []⟩,
    ⟨.pick (.l 4) (.c (.bool true)) (.l 8), none, none, []⟩,
    ⟨.mv (.l 9), none, none, []⟩,
    ⟨.fieldAddr 0 (.v 1), none, some ((.l 10), false), []⟩,
    ⟨.load false 1 (.l 11), none, some ((.l 10), false), []⟩,
    ⟨.bin .quo false (.l 12) (.c (.int .i64 2)), none, some ((.l 10), false), []⟩,
    ⟨.bin .gtr false (.l 13) (.c (.int .i64 60)), none, some ((.l 10), false), []⟩,
    ⟨.pick (.l 10) (.c (.bool true)) (.l 14), some 3, none, []⟩]) (
  .cond (.v 3) (
   .seq (
   .reg [⟨.mv (.c (.bool false)), some 2, none, []⟩]) (
   .ret)) (
   .skip))) (
  .seq (
  .seq (
  .reg [⟨.fieldAddr 1 (.v 1), none, none, []⟩,
    ⟨.load false 1 (.l 0), none, none, []⟩,
    ⟨.bin .rem false (.l 1) (.c (.int .i64 3)), none, none, []⟩,
    ⟨.bin .neq false (.l 2) (.c (.int .i64 0)), none, none, []⟩,
    ⟨.mv (.l 3), none, none, []⟩,
    ⟨.fieldAddr 1 (.v 1), none, some ((.l 4), false), []⟩,
    ⟨.load false 1 (.l 5), none, some ((.l 4), false), []⟩,
    ⟨.bin .quo false (.l 6) (.c (.int .i64 3)), none, some ((.l 4), false), []⟩,
    ⟨.bin .lss false (.l 7) (.c (.int .i64 4)), none, some ((.l 4), false), []⟩,
    ⟨.pick (.l 4) (.c (.bool true)) (.l 8), none, none, []⟩,
    ⟨.mv (.l 9), none, none, []⟩,
    ⟨.fieldAddr 1 (.v 1), none, some ((.l 10), false), []⟩,
    ⟨.load false 1 (.l 11), none, some ((.l 10), false), []⟩,
    ⟨.bin .quo false (.l 12) (.c (.int .i64 3)), none, some ((.l 10), false), []⟩,
    ⟨.bin .gtr false (.l 13) (.c (.int .i64 40)), none, some ((.l 10), false), []⟩,
    ⟨.pick (.l 10) (.c (.bool true)) (.l 14), some 4, none, []⟩]) (
  .cond (.v 4) (
   .seq (
   .reg [⟨.mv (.c (.bool false)), some 2, none, []⟩]) (
   .ret)) (
   .skip))) (
  .seq (
  .reg [⟨.fieldAddr 2 (.v 1), none, none, []⟩,
    ⟨.load false 1 (.l 0), none, none, []⟩,
    ⟨.fieldAddr 0 (.v 1), none, none, []⟩,
    ⟨.load false 1 (.l 2), none, none, []⟩,
    ⟨.fieldAddr 1 (.v 1), none, none, []⟩,
    ⟨.load false 1 (.l 4), none, none, []⟩,
    ⟨.call 35 [(.l 1), (.l 3), (.l 5)] [(0, 0)] true, none, none, []⟩,
    ⟨.mv (.l 6), none, none, []⟩,
    ⟨.fieldAddr 3 (.v 1), none, some ((.l 7), true), []⟩,
    ⟨.load false 1 (.l 8), none, some ((.l 7), true), []⟩,
    ⟨.fieldAddr 0 (.v 1), none, some ((.l 7), true), []⟩,
    ⟨.load false 1 (.l 10), none, some ((.l 7), true), []⟩,
    ⟨.fieldAddr 1 (.v 1), none, some ((.l 7), true), []⟩,
    ⟨.load false 1 (.l 12), none, some ((.l 7), true), []⟩,
    ⟨.call 35 [(.l 9), (.l 11), (.l 13)] [(0, 0)] true, none, some ((.l 7), true), []⟩,
    ⟨.pick (.l 7) (.l 14) (.c (.bool false)), none, none, []⟩,
    ⟨.mv (.l 15), some 2, none, []⟩]) (
  .ret))))⟩

def X35 : XFn :=
 ⟨24, [0, 1, 2, 6, 8, 12, 13, 14, 15, 16, 22], 0, [(3, none)],
  .seq (
  .reg [⟨.mv (.c (.bool false)), some 3, none, []⟩]) (
  .seq (
  .seq (
  .reg [⟨.mv (.v 0), none, none, []⟩,
    ⟨.len false (.l 0), none, none, []⟩,
    ⟨.mv (.v 2), none, none, []⟩,
    ⟨.bin .neq false (.l 1) (.l 2), some 5, none, []⟩]) (
  .cond (.v 5) (
   .seq (
   .reg [⟨.mv (.c (.bool false)), some 3, none, []⟩]) (
   .ret)) (
   .skip))) (
  .seq (
  .seq (
  .reg [⟨.mv (.v 0), some 6, none, []⟩,
    ⟨.len false (.l 0), some 7, none, []⟩,
    ⟨.mv (.c (.int .i64 0)), some 8, none, []⟩]) (
  .block 0 (
   .loopS [1, 6, 7, 8] 0 (
    .seq (
    .reg [⟨.bin .lss false (.v 8) (.v 7), some 9, none, []⟩]) (
    .seq (
    .cond (.v 9) (
     .skip) (
     .exit 0)) (
    .seq (
    .block 1 (
     .seq (
     .reg [⟨.indexAddr 1 (.v 6) (.v 8), none, none, []⟩,
       ⟨.load false 1 (.l 0), none, none, []⟩,
       ⟨.mv (.l 1), some 4, none, []⟩]) (
     .seq (
     .reg [⟨.mv (.v 4), none, none, []⟩,
       ⟨.len false (.l 0), none, none, []⟩,
       ⟨.mv (.v 1), none, none, []⟩,
       ⟨.bin .neq false (.l 1) (.l 2), some 10, none, []⟩]) (
     .cond (.v 10) (
      .seq (
      .reg [⟨.mv (.c (.bool false)), some 3, none, []⟩]) (
      .ret)) (
      .skip))))) (
    .reg [⟨.bin .add false (.v 8) (.c (.int .i64 1)), none, none, []⟩,
      ⟨.mv (.l 0), some 8, none, []⟩]))))))) (
  .seq (
  .reg [⟨.mv (.c (.bool true)), some 3, none, []⟩]) (
  .ret))))⟩

def X33 : XFn :=
 ⟨24, [0, 1, 2, 6, 7, 11, 14, 23], 0, [(3, none)],
  .seq (
  .reg [⟨.mv (.c (.bool false)), some 3, none, []⟩]) (
  .seq (
  .seq (
  .reg [⟨.mv (.v 0), none, none, []⟩,
    ⟨.len false (.l 0), none, none, []⟩,
    ⟨.mv (.v 2), none, none, []⟩,
    ⟨.bin .neq false (.l 1) (.l 2), some 5, none, []⟩]) (
  .cond (.v 5) (
   .seq (
   .reg [⟨.mv (.c (.bool false)), some 3, none, []⟩]) (
   .ret)) (
   .skip))) (
  .seq (
  .seq (
  .reg [⟨.mv (.c (.int .i64 0)), some 4, none, []⟩]) (
  .block 0 (
   .loopS [0, 1, 2, 4] 0 (
    .seq (
    .seq (
    .reg [⟨.mv (.v 4), none, none, []⟩,
      ⟨.mv (.v 2), none, none, []⟩,
      ⟨.bin .lss false (.l 0) (.l 1), some 6, none, []⟩]) (
    .cond (.v 6) (
     .skip) (
     .exit 0))) (
    .seq (
    .block 1 (
     .seq (
     .reg [⟨.mv (.v 0), none, none, []⟩,
       ⟨.mv (.v 4), none, none, []⟩,
       ⟨.indexAddr 1 (.l 0) (.l 1), none, none, []⟩,
       ⟨.load false 1 (.l 2), none, none, []⟩,
       ⟨.len false (.l 3), none, none, []⟩,
       ⟨.mv (.v 1), none, none, []⟩,
       ⟨.bin .neq false (.l 4) (.l 5), some 7, none, []⟩]) (
     .cond (.v 7) (
      .seq (
      .reg [⟨.mv (.c (.bool false)), some 3, none, []⟩]) (
      .ret)) (
      .skip)))) (
    .reg [⟨.mv (.v 4), none, none, []⟩,
      ⟨.bin .add false (.l 0) (.c (.int .i64 1)), none, none, []⟩,
      ⟨.mv (.l 1), some 4, none, []⟩])))))) (
  .seq (
  .reg [⟨.mv (.c (.bool true)), some 3, none, []⟩]) (
  .ret))))⟩

def X26 : XFn :=
 ⟨36, [0, 1, 4, 5, 6, 7, 8, 9, 10, 11, 12, 13, 17, 18, 19, 20, 24], 2, [(2, none)],
  .seq (
  .reg [⟨.mv (.c .nils), some 2, none, []⟩]) (
  .seq (
  .reg [⟨.mv (.c .nils), some 3, none, []⟩]) (
  .mat 3 none 0 1 (
  .seq (
  .seq (
  .reg [⟨.mv (.v 1), some 8, none, []⟩,
    ⟨.len false (.l 0), some 9, none, []⟩,
    ⟨.mv (.c (.int .i64 0)), some 10, none, []⟩]) (
  .block 0 (
   .loopS [0, 3, 8, 9, 10] 2 (
    .seq (
    .reg [⟨.bin .lss false (.v 10) (.v 9), some 11, none, []⟩]) (
    .seq (
    .cond (.v 11) (
     .skip) (
     .exit 0)) (
    .seq (
    .block 1 (
     .seq (
     .reg [⟨.mv (.v 10), none, none, []⟩,
       ⟨.indexAddr 1 (.v 8) (.v 10), none, none, []⟩,
       ⟨.load false 1 (.l 1), none, none, []⟩,
       ⟨.mv (.l 0), some 4, none, []⟩,
       ⟨.mv (.l 2), some 5, none, []⟩]) (
     .seq (
     .reg [⟨.mv (.v 5), some 12, none, []⟩,
       ⟨.len false (.l 0), some 13, none, []⟩,
       ⟨.mv (.c (.int .i64 0)), some 14, none, []⟩]) (
     .block 2 (
      .loopS [0, 3, 4, 8, 9, 10, 12, 13, 14] 2 (
       .seq (
       .reg [⟨.bin .lss false (.v 14) (.v 13), some 15, none, []⟩]) (
       .seq (
       .cond (.v 15) (
        .skip) (
        .exit 2)) (
       .seq (
       .block 3 (
        .seq (
        .reg [⟨.mv (.v 14), none, none, []⟩,
          ⟨.indexAddr 1 (.v 12) (.v 14), none, none, []⟩,
          ⟨.load false 1 (.l 1), none, none, []⟩,
          ⟨.mv (.l 0), some 6, none, []⟩,
          ⟨.mv (.l 2), some 7, none, []⟩]) (
        .seq (
        .reg [⟨.mv (.v 7), some 16, none, []⟩]) (
        .cond (.v 16) (
         .reg [⟨.mv (.v 3), none, none, []⟩,
           ⟨.mv (.v 4), none, none, []⟩,
           ⟨.mv (.v 0), none, none, []⟩,
           ⟨.bin .mul false (.l 1) (.l 2), none, none, []⟩,
           ⟨.mv (.v 6), none, none, []⟩,
           ⟨.bin .add false (.l 3) (.l 4), none, none, []⟩,
           ⟨.mkarr 0 1 [(.int .i64 0)] [(0, (.l 5))], none, none, []⟩,
           ⟨.append 1 1 8 1 (.l 0) (.l 6), none, none, []⟩,
           ⟨.mv (.l 7), some 3, none, []⟩]) (
         .skip))))) (
       .reg [⟨.bin .add false (.v 14) (.c (.int .i64 1)), none, none, []⟩,
         ⟨.mv (.l 0), some 14, none, []⟩]))))))))) (
    .reg [⟨.bin .add false (.v 10) (.c (.int .i64 1)), none, none, []⟩,
      ⟨.mv (.l 0), some 10, none, []⟩]))))))) (
  .seq (
  .reg [⟨.mv (.v 3), none, none, []⟩,
    ⟨.mv (.l 0), some 2, none, []⟩]) (
  .ret)))))⟩

def X27 : XFn :=
 ⟨37, [0, 1, 2, 6, 7, 9, 12, 13, 14, 15, 20], 6, [(3, some (true, 3))],
  .seq (
  .reg [⟨.alloc 0 [(.int .i64 0), .nils, .nils], some 3, none, []⟩]) (
  .seq (
  .reg [⟨.mv (.v 0), none, none, []⟩,
    ⟨.build [(.int .i64 0), .nils, .nils] [(0, 1, (.l 0))], none, none, []⟩,
    ⟨.alloc 1 [(.int .i64 0), .nils, .nils], some 4, none, []⟩,
    ⟨.store 3 (.l 2) (.l 1), none, none, []⟩]) (
  .mat 4 (some 1) 2 1 (
  .mat 4 (some 2) 4 1 (
  .seq (
  .seq (
  .reg [⟨.mv (.v 2), some 6, none, []⟩,
    ⟨.len false (.l 0), some 7, none, []⟩,
    ⟨.mv (.c (.int .i64 0)), some 8, none, []⟩]) (
  .block 0 (
   .loopS [1, 3, 4, 6, 7, 8] 6 (
    .seq (
    .reg [⟨.bin .lss false (.v 8) (.v 7), some 9, none, []⟩]) (
    .seq (
    .cond (.v 9) (
     .skip) (
     .exit 0)) (
    .seq (
    .block 1 (
     .seq (
     .reg [⟨.indexAddr 1 (.v 6) (.v 8), none, none, []⟩,
       ⟨.load false 1 (.l 0), none, none, []⟩,
       ⟨.mv (.l 1), some 5, none, []⟩]) (
     .seq (
     .reg [⟨.mv (.v 5), none, none, []⟩,
       ⟨.mv (.v 1), none, none, []⟩,
       ⟨.bin .lss false (.l 0) (.l 1), some 10, none, []⟩]) (
     .cond (.v 10) (
      .reg [⟨.fieldAddr 1 (.v 4), none, none, []⟩,
        ⟨.load false 1 (.l 0), none, none, []⟩,
        ⟨.mv (.v 5), none, none, []⟩,
        ⟨.mkarr 2 1 [(.int .i64 0)] [(0, (.l 2))], none, none, []⟩,
        ⟨.append 3 1 8 1 (.l 1) (.l 3), none, none, []⟩,
        ⟨.fieldAddr 1 (.v 4), none, none, []⟩,
        ⟨.store 1 (.l 5) (.l 4), none, none, []⟩]) (
      .reg [⟨.fieldAddr 2 (.v 4), none, none, []⟩,
        ⟨.load false 1 (.l 0), none, none, []⟩,
        ⟨.mv (.v 5), none, none, []⟩,
        ⟨.mv (.v 1), none, none, []⟩,
        ⟨.bin .sub false (.l 2) (.l 3), none, none, []⟩,
        ⟨.mkarr 4 1 [(.int .i64 0)] [(0, (.l 4))], none, none, []⟩,
        ⟨.append 5 1 8 1 (.l 1) (.l 5), none, none, []⟩,
        ⟨.fieldAddr 2 (.v 4), none, none, []⟩,
        ⟨.store 1 (.l 7) (.l 6), none, none, []⟩]))))) (
    .reg [⟨.bin .add false (.v 8) (.c (.int .i64 1)), none, none, []⟩,
      ⟨.mv (.l 0), some 8, none, []⟩]))))))) (
  .seq (
  .reg [⟨.load true 3 (.v 4), none, none, []⟩,
    ⟨.store 3 (.v 3) (.l 0), none, none, []⟩]) (
  .ret))))))⟩

def X9 : XFn :=
 ⟨75, [0, 1, 2, 3, 4, 5, 6, 28, 59], 5, [(2, some (true, 4))],
  .seq (
  .reg [⟨.box 0 (.v 0), some 1, none, []⟩,
    ⟨.alloc 1 [(.int .i64 0), (.int .i64 0), .nils, .nils], some 2, none, []⟩]) (
  .seq (
  .reg [⟨.fieldAddr 0 (.v 1), none, none, []⟩,
    ⟨.load false 1 (.l 0), none, none, []⟩,
    ⟨.bin .rem false (.l 1) (.c (.int .u8 3)), none, none, []⟩,
    ⟨.conv .i64 (.l 2), none, none, []⟩,
    ⟨.bin .add false (.c (.int .i64 24)) (.l 3), none, none, []⟩,
    ⟨.bin .mul false (.c (.int .i64 2)) (.l 4), none, none, []⟩,
    ⟨.fieldAddr 1 (.v 1), none, none, []⟩,
    ⟨.load false 1 (.l 6), none, none, []⟩,
    ⟨.bin .rem false (.l 7) (.c (.int .u8 2)), none, none, []⟩,
    ⟨.conv .i64 (.l 8), none, none, []⟩,
    ⟨.bin .add false (.c (.int .i64 4)) (.l 9), none, none, []⟩,
    ⟨.bin .mul false (.c (.int .i64 3)) (.l 10), none, none, []⟩,
    ⟨.call 22 [(.l 5), (.l 11)] [(0, 0), (0, 0), (2, 1), (3, 1)] true, none, none, []⟩,
    ⟨.alloc 4 [(.int .i64 0), (.int .i64 0), .nils, .nils], some 3, none, []⟩,
    ⟨.store 4 (.l 13) (.l 12), none, none, []⟩]) (
  .seq (
  .seq (
  .reg [⟨.mv (.c (.int .i64 0)), some 4, none, []⟩]) (
  .block 0 (
   .loopS [1, 2, 3, 4] 5 (
    .seq (
    .seq (
    .reg [⟨.mv (.v 4), none, none, []⟩,
      ⟨.fieldAddr 2 (.v 1), none, none, []⟩,
      ⟨.load false 1 (.l 1), none, none, []⟩,
      ⟨.len false (.l 2), none, none, []⟩,
      ⟨.bin .lss false (.l 0) (.l 3), none, none, []⟩,
      ⟨.mv (.l 4), none, none, []⟩,
      ⟨.mv (.v 4), none, some ((.l 5), true), []⟩,
      ⟨.bin .lss false (.l 6) (.c (.int .i64 200)), none, some ((.l 5), true), []⟩,
      ⟨.pick (.l 5) (.l 7) (.c (.bool false)), some 7, none, []⟩]) (
    .cond (.v 7) (
     .skip) (
     .exit 0))) (
    .seq (
    .block 1 (
     .seq (
     .reg [⟨.fieldAddr 2 (.v 1), none, none, []⟩,
       ⟨.load false 1 (.l 0), none, none, []⟩,
       ⟨.mv (.v 4), none, none, []⟩,
       ⟨.indexAddr 2 (.l 1) (.l 2), none, none, []⟩,
       ⟨.indexAddrA 2 1 (.l 3) (.c (.int .i64 0)), none, none, []⟩,
       ⟨.load false 1 (.l 4), none, none, []⟩,
       ⟨.conv .i64 (.l 5), none, none, []⟩,
       ⟨.fieldAddr 0 (.v 3), none, none, []⟩,
       ⟨.load false 1 (.l 7), none, none, []⟩,
       ⟨.bin .rem false (.l 6) (.l 8), none, none, []⟩,
       ⟨.fieldAddr 2 (.v 1), none, none, []⟩,
       ⟨.load false 1 (.l 10), none, none, []⟩,
       ⟨.mv (.v 4), none, none, []⟩,
       ⟨.indexAddr 2 (.l 11) (.l 12), none, none, []⟩,
       ⟨.indexAddrA 2 1 (.l 13) (.c (.int .i64 1)), none, none, []⟩,
       ⟨.load false 1 (.l 14), none, none, []⟩,
       ⟨.bin .quo false (.l 15) (.c (.int .u8 2)), none, none, []⟩,
       ⟨.conv .i64 (.l 16), none, none, []⟩,
       ⟨.fieldAddr 1 (.v 3), none, none, []⟩,
       ⟨.load false 1 (.l 18), none, none, []⟩,
       ⟨.bin .rem false (.l 17) (.l 19), none, none, []⟩,
       ⟨.mv (.l 9), some 5, none, []⟩,
       ⟨.mv (.l 20), some 6, none, []⟩]) (
     .seq (
     .reg [⟨.fieldAddr 2 (.v 1), none, none, []⟩,
       ⟨.load false 1 (.l 0), none, none, []⟩,
       ⟨.mv (.v 4), none, none, []⟩,
       ⟨.indexAddr 2 (.l 1) (.l 2), none, none, []⟩,
       ⟨.indexAddrA 2 1 (.l 3) (.c (.int .i64 1)), none, none, []⟩,
       ⟨.load false 1 (.l 4), none, none, []⟩,
       ⟨.bin .rem false (.l 5) (.c (.int .u8 2)), none, none, []⟩,
       ⟨.bin .eql false (.l 6) (.c (.int .u8 1)), some 8, none, []⟩]) (
     .cond (.v 8) (
      .reg [⟨.fieldAddr 3 (.v 3), none, none, []⟩,
        ⟨.load false 1 (.l 0), none, none, []⟩,
        ⟨.mv (.v 6), none, none, []⟩,
        ⟨.indexAddr 1 (.l 1) (.l 2), none, none, []⟩,
        ⟨.load false 1 (.l 3), none, none, []⟩,
        ⟨.mv (.v 5), none, none, []⟩,
        ⟨.indexAddr 1 (.l 4) (.l 5), none, none, []⟩,
        ⟨.store 1 (.l 6) (.c (.bool true)), none, none, []⟩]) (
      .reg [⟨.fieldAddr 2 (.v 3), none, none, []⟩,
        ⟨.load false 1 (.l 0), none, none, []⟩,
        ⟨.mv (.v 6), none, none, []⟩,
        ⟨.indexAddr 1 (.l 1) (.l 2), none, none, []⟩,
        ⟨.load false 1 (.l 3), none, none, []⟩,
        ⟨.mv (.v 5), none, none, []⟩,
        ⟨.indexAddr 1 (.l 4) (.l 5), none, none, []⟩,
        ⟨.store 1 (.l 6) (.c (.bool true)), none, none, []⟩]))))) (
    .reg [⟨.mv (.v 4), none, none, []⟩,
      ⟨.bin .add false (.l 0) (.c (.int .i64 1)), none, none, []⟩,
      ⟨.mv (.l 1), some 4, none, []⟩])))))) (
  .seq (
  .reg [⟨.load true 4 (.v 3), none, none, []⟩,
    ⟨.store 4 (.v 2) (.l 0), none, none, []⟩]) (
  .ret))))⟩

def X11 : XFn :=
 ⟨110, [0, 1, 2, 4, 5, 6, 7, 8, 9, 10, 11, 12, 13, 19, 23, 28, 37, 71, 78, 91, 96, 104], 11, [(3, none), (4, none)],
  .seq (
  .reg [⟨.box 0 (.v 0), some 2, none, []⟩,
    ⟨.mv (.c .nils), some 3, none, []⟩,
    ⟨.mv (.c (.int .i64 0)), some 4, none, []⟩]) (
  .seq (
  .seq (
  .reg [⟨.mv (.v 1), none, none, []⟩,
    ⟨.bin .lss false (.l 0) (.c (.int .i64 1)), none, none, []⟩,
    ⟨.mv (.l 1), none, none, []⟩,
    ⟨.mv (.v 1), none, some ((.l 2), false), []⟩,
    ⟨.bin .gtr false (.l 3) (.c (.int .i64 64)), none, some ((.l 2), false), []⟩,
    ⟨.pick (.l 2) (.c (.bool true)) (.l 4), some 13, none, []⟩]) (
  .cond (.v 13) (
   .seq (
   .reg [⟨.mv (.c .nils), some 3, none, []⟩,
     ⟨.mv (.c (.int .i64 1)), some 4, none, []⟩]) (
   .ret)) (
   .skip))) (
  .seq (
  .reg [⟨.load true 4 (.v 2), none, none, []⟩,
    ⟨.call 21 [(.l 0)] [(0, 0)] true, none, none, []⟩,
    ⟨.mv (.l 1), some 5, none, []⟩]) (
  .seq (
  .seq (
  .reg [⟨.mv (.v 5), none, none, []⟩,
    ⟨.un .not (.l 0), some 14, none, []⟩]) (
  .cond (.v 14) (
   .seq (
   .reg [⟨.mv (.c .nils), some 3, none, []⟩,
     ⟨.mv (.c (.int .i64 250)), some 4, none, []⟩]) (
   .ret)) (
   .skip))) (
  .seq (
  .reg [⟨.mkarr 1 3 [] [], none, none, []⟩,
    ⟨.mv (.l 0), some 6, none, []⟩]) (
  .seq (
  .seq (
  .reg [⟨.mv (.c (.int .i64 0)), some 7, none, []⟩]) (
  .block 0 (
   .loopS [1, 2, 6, 7] 11 (
    .seq (
    .seq (
    .reg [⟨.mv (.v 7), none, none, []⟩,
      ⟨.fieldAddr 1 (.v 2), none, none, []⟩,
      ⟨.load false 1 (.l 1), none, none, []⟩,
      ⟨.bin .lss false (.l 0) (.l 2), some 15, none, []⟩]) (
    .cond (.v 15) (
     .skip) (
     .exit 0))) (
    .seq (
    .block 1 (
     .seq (
     .reg [⟨.mv (.v 7), none, none, []⟩,
       ⟨.build [(.int .i64 0), .nils, .nils] [(0, 1, (.l 0))], none, none, []⟩,
       ⟨.alloc 2 [(.int .i64 0), .nils, .nils], some 8, none, []⟩,
       ⟨.store 3 (.l 2) (.l 1), none, none, []⟩,
       ⟨.mv (.c (.int .i64 0)), some 9, none, []⟩]) (
  .mat 8 (some 1) 4 1 (
  .mat 8 (some 2) 6 1 (
     .seq (
     .seq (
     .reg [⟨.mv (.c (.int .i64 0)), some 10, none, []⟩]) (
     .block 2 (
      .loopS [1, 2, 6, 7, 8, 9, 10] 11 (
       .seq (
       .seq (
       .reg [⟨.mv (.v 10), none, none, []⟩,
         ⟨.fieldAddr 0 (.v 2), none, none, []⟩,
         ⟨.load false 1 (.l 1), none, none, []⟩,
         ⟨.bin .mul false (.c (.int .i64 2)) (.l 2), none, none, []⟩,
         ⟨.bin .lss false (.l 0) (.l 3), some 16, none, []⟩]) (
       .cond (.v 16) (
        .skip) (
        .exit 2))) (
       .seq (
       .block 3 (
        .seq (
        .reg [⟨.mv (.v 10), none, none, []⟩,
          ⟨.fieldAddr 0 (.v 2), none, none, []⟩,
          ⟨.load false 1 (.l 1), none, none, []⟩,
          ⟨.bin .lss false (.l 0) (.l 2), none, none, []⟩,
          ⟨.mv (.l 3), none, none, []⟩,
          ⟨.fieldAddr 2 (.v 2), none, some ((.l 4), true), []⟩,
          ⟨.load false 1 (.l 5), none, some ((.l 4), true), []⟩,
          ⟨.mv (.v 7), none, some ((.l 4), true), []⟩,
          ⟨.indexAddr 1 (.l 6) (.l 7), none, some ((.l 4), true), []⟩,
          ⟨.load false 1 (.l 8), none, some ((.l 4), true), []⟩,
          ⟨.mv (.v 10), none, some ((.l 4), true), []⟩,
          ⟨.indexAddr 1 (.l 9) (.l 10), none, some ((.l 4), true), []⟩,
          ⟨.load false 1 (.l 11), none, some ((.l 4), true), []⟩,
          ⟨.pick (.l 4) (.l 12) (.c (.bool false)), none, none, []⟩,
          ⟨.mv (.l 13), some 11, none, []⟩]) (
        .seq (
        .reg [⟨.mv (.v 10), none, none, []⟩,
          ⟨.fieldAddr 0 (.v 2), none, none, []⟩,
          ⟨.load false 1 (.l 1), none, none, []⟩,
          ⟨.bin .geq false (.l 0) (.l 2), none, none, []⟩,
          ⟨.mv (.l 3), none, none, []⟩,
          ⟨.fieldAddr 3 (.v 2), none, some ((.l 4), true), []⟩,
          ⟨.load false 1 (.l 5), none, some ((.l 4), true), []⟩,
          ⟨.mv (.v 7), none, some ((.l 4), true), []⟩,
          ⟨.indexAddr 1 (.l 6) (.l 7), none, some ((.l 4), true), []⟩,
          ⟨.load false 1 (.l 8), none, some ((.l 4), true), []⟩,
          ⟨.mv (.v 10), none, some ((.l 4), true), []⟩,
          ⟨.fieldAddr 0 (.v 2), none, some ((.l 4), true), []⟩,
          ⟨.load false 1 (.l 11), none, some ((.l 4), true), []⟩,
          ⟨.bin .sub false (.l 10) (.l 12), none, some ((.l 4), true), []⟩,
          ⟨.indexAddr 1 (.l 9) (.l 13), none, some ((.l 4), true), []⟩,
          ⟨.load false 1 (.l 14), none, some ((.l 4), true), []⟩,
          ⟨.pick (.l 4) (.l 15) (.c (.bool false)), none, none, []⟩,
          ⟨.mv (.l 16), some 12, none, []⟩]) (
        .seq (
        .seq (
        .reg [⟨.mv (.v 11), some 17, none, []⟩]) (
        .cond (.v 17) (
         .reg [⟨.fieldAddr 1 (.v 8), none, none, []⟩,
           ⟨.load false 1 (.l 0), none, none, []⟩,
           ⟨.mv (.v 10), none, none, []⟩,
           ⟨.mkarr 3 1 [(.int .i64 0)] [(0, (.l 2))], none, none, []⟩,
           ⟨.append 4 1 8 1 (.l 1) (.l 3), none, none, []⟩,
           ⟨.fieldAddr 1 (.v 8), none, none, []⟩,
           ⟨.store 1 (.l 5) (.l 4), none, none, []⟩]) (
         .skip))) (
        .seq (
        .seq (
        .reg [⟨.mv (.v 12), some 18, none, []⟩]) (
        .cond (.v 18) (
         .reg [⟨.fieldAddr 2 (.v 8), none, none, []⟩,
           ⟨.load false 1 (.l 0), none, none, []⟩,
           ⟨.mv (.v 10), none, none, []⟩,
           ⟨.fieldAddr 0 (.v 2), none, none, []⟩,
           ⟨.load false 1 (.l 3), none, none, []⟩,
           ⟨.bin .sub false (.l 2) (.l 4), none, none, []⟩,
           ⟨.mkarr 5 1 [(.int .i64 0)] [(0, (.l 5))], none, none, []⟩,
           ⟨.append 6 1 8 1 (.l 1) (.l 6), none, none, []⟩,
           ⟨.fieldAddr 2 (.v 8), none, none, []⟩,
           ⟨.store 1 (.l 8) (.l 7), none, none, []⟩]) (
         .skip))) (
        .seq (
        .seq (
        .reg [⟨.mv (.v 11), none, none, []⟩,
          ⟨.mv (.l 0), none, none, []⟩,
          ⟨.mv (.v 12), none, some ((.l 1), false), []⟩,
          ⟨.pick (.l 1) (.c (.bool true)) (.l 2), some 19, none, []⟩]) (
        .cond (.v 19) (
         .reg [⟨.mv (.v 9), none, none, []⟩,
           ⟨.bin .add false (.l 0) (.c (.int .i64 1)), none, none, []⟩,
           ⟨.mv (.l 1), some 9, none, []⟩]) (
         .skip))) (
        .seq (
        .reg [⟨.mv (.v 9), none, none, []⟩,
          ⟨.mv (.v 1), none, none, []⟩,
          ⟨.bin .eql false (.l 0) (.l 1), some 20, none, []⟩]) (
        .cond (.v 20) (
         .seq (
         .reg [⟨.mv (.v 6), none, none, []⟩,
           ⟨.load true 3 (.v 8), none, none, []⟩,
           ⟨.mkarr 7 3 [(.agg [(.int .i64 0), .nils, .nils])] [(0, (.l 1))], none, none, []⟩,
           ⟨.append 8 3 56 1 (.l 0) (.l 2), none, none, []⟩,
           ⟨.mv (.l 3), some 6, none, []⟩]) (
         .reg [⟨.mv (.v 7), none, none, []⟩,
           ⟨.build [(.int .i64 0), .nils, .nils] [(0, 1, (.l 0))], none, none, []⟩,
           ⟨.store 3 (.v 8) (.l 1), none, none, []⟩,
           ⟨.mv (.c (.int .i64 0)), some 9, none, []⟩])) (
         .skip))))))))) (
  .mat 8 (some 2) 6 1 (
  .mat 8 (some 1) 4 1 (
       .reg [⟨.mv (.v 10), none, none, []⟩,
         ⟨.bin .add false (.l 0) (.c (.int .i64 1)), none, none, []⟩,
         ⟨.mv (.l 1), some 10, none, []⟩])))))))) (
     .seq (
     .reg [⟨.mv (.v 9), none, none, []⟩,
       ⟨.bin .gtr false (.l 0) (.c (.int .i64 0)), some 21, none, []⟩]) (
     .cond (.v 21) (
      .reg [⟨.mv (.v 6), none, none, []⟩,
        ⟨.load true 3 (.v 8), none, none, []⟩,
        ⟨.mkarr 9 3 [(.agg [(.int .i64 0), .nils, .nils])] [(0, (.l 1))], none, none, []⟩,
        ⟨.append 10 3 56 1 (.l 0) (.l 2), none, none, []⟩,
        ⟨.mv (.l 3), some 6, none, []⟩]) (
      .skip)))))))) (
    .reg [⟨.mv (.v 7), none, none, []⟩,
      ⟨.bin .add false (.l 0) (.c (.int .i64 1)), none, none, []⟩,
      ⟨.mv (.l 1), some 7, none, []⟩])))))) (
  .seq (
  .reg [⟨.mv (.v 6), none, none, []⟩,
    ⟨.mv (.l 0), some 3, none, []⟩,
    ⟨.mv (.c (.int .i64 0)), some 4, none, []⟩]) (
  .ret)))))))⟩

def X22 : XFn :=
 ⟨32, [0, 1, 4, 5, 6, 12], 8, [(2, some (true, 4))],
  .seq (
  .reg [⟨.alloc 0 [(.int .i64 0), (.int .i64 0), .nils, .nils], some 2, none, []⟩]) (
  .seq (
  .reg [⟨.mv (.v 0), none, none, []⟩,
    ⟨.mv (.v 1), none, none, []⟩,
    ⟨.build [(.int .i64 0), (.int .i64 0), .nils, .nils] [(0, 1, (.l 0)), (1, 1, (.l 1))], none, none, []⟩,
    ⟨.alloc 1 [(.int .i64 0), (.int .i64 0), .nils, .nils], some 3, none, []⟩,
    ⟨.store 4 (.l 3) (.l 2), none, none, []⟩]) (
  .mat 3 (some 2) 2 1 (
  .mat 3 (some 3) 5 1 (
  .seq (
  .seq (
  .reg [⟨.mv (.c (.int .i64 0)), some 4, none, []⟩]) (
  .block 0 (
   .loopS [0, 1, 2, 3, 4] 8 (
    .seq (
    .seq (
    .reg [⟨.mv (.v 4), none, none, []⟩,
      ⟨.mv (.v 1), none, none, []⟩,
      ⟨.bin .lss false (.l 0) (.l 1), some 5, none, []⟩]) (
    .cond (.v 5) (
     .skip) (
     .exit 0))) (
    .seq (
    .block 1 (
     .seq (
     .reg [⟨.fieldAddr 2 (.v 3), none, none, [2, 3]⟩,
       ⟨.load false 1 (.l 0), none, none, [2, 3]⟩,
       ⟨.mv (.v 0), none, none, []⟩,
       ⟨.minmax true [(.l 2), (.c (.int .i64 0))], none, none, []⟩,
       ⟨.makeSlice 2 1 1 (.bool false) (.l 3) (.l 3), none, none, []⟩,
       ⟨.mkarr 3 1 [.nils] [(0, (.l 4))], none, none, []⟩,
       ⟨.append 4 1 24 1 (.l 1) (.l 5), none, none, []⟩,
       ⟨.fieldAddr 2 (.v 3), none, none, []⟩,
       ⟨.store 1 (.l 7) (.l 6), none, none, []⟩]) (
     .reg [⟨.fieldAddr 3 (.v 3), none, none, [5, 6]⟩,
       ⟨.load false 1 (.l 0), none, none, [5, 6]⟩,
       ⟨.mv (.v 0), none, none, []⟩,
       ⟨.minmax true [(.l 2), (.c (.int .i64 0))], none, none, []⟩,
       ⟨.makeSlice 5 1 1 (.bool false) (.l 3) (.l 3), none, none, []⟩,
       ⟨.mkarr 6 1 [.nils] [(0, (.l 4))], none, none, []⟩,
       ⟨.append 7 1 24 1 (.l 1) (.l 5), none, none, []⟩,
       ⟨.fieldAddr 3 (.v 3), none, none, []⟩,
       ⟨.store 1 (.l 7) (.l 6), none, none, []⟩]))) (
    .reg [⟨.mv (.v 4), none, none, []⟩,
      ⟨.bin .add false (.l 0) (.c (.int .i64 1)), none, none, []⟩,
      ⟨.mv (.l 1), some 4, none, []⟩])))))) (
  .seq (
  .reg [⟨.load true 4 (.v 3), none, none, []⟩,
    ⟨.store 4 (.v 2) (.l 0), none, none, []⟩]) (
  .ret))))))⟩

def X30 : XFn :=
 ⟨41, [0, 1, 4, 5, 9, 40], 0, [(2, none)],
  .seq (
  .reg [⟨.mv (.c (.bool false)), some 2, none, []⟩]) (
  .seq (
  .seq (
  .reg [⟨.mv (.c (.int .i64 0)), some 3, none, []⟩]) (
  .block 0 (
   .loopS [0, 1, 3] 0 (
    .seq (
    .seq (
    .reg [⟨.mv (.v 3), none, none, []⟩,
      ⟨.mv (.v 0), none, none, []⟩,
      ⟨.len false (.l 1), none, none, []⟩,
      ⟨.bin .lss false (.l 0) (.l 2), some 4, none, []⟩]) (
    .cond (.v 4) (
     .skip) (
     .exit 0))) (
    .seq (
    .block 1 (
     .seq (
     .reg [⟨.mv (.v 0), none, none, []⟩,
       ⟨.mv (.v 3), none, none, []⟩,
       ⟨.indexAddr 1 (.l 0) (.l 1), none, none, []⟩,
       ⟨.load false 1 (.l 2), none, none, []⟩,
       ⟨.bin .lss false (.l 3) (.c (.int .i64 0)), none, none, []⟩,
       ⟨.mv (.l 4), none, none, []⟩,
       ⟨.mv (.v 0), none, some ((.l 5), false), []⟩,
       ⟨.mv (.v 3), none, some ((.l 5), false), []⟩,
       ⟨.indexAddr 1 (.l 6) (.l 7), none, some ((.l 5), false), []⟩,
       ⟨.load false 1 (.l 8), none, some ((.l 5), false), []⟩,
       ⟨.mv (.v 1), none, some ((.l 5), false), []⟩,
       ⟨.bin .geq false (.l 9) (.l 10), none, some ((.l 5), false), []⟩,
       ⟨.pick (.l 5) (.c (.bool true)) (.l 11), none, none, []⟩,
       ⟨.mv (.l 12), none, none, []⟩,
       ⟨.mv (.v 3), none, some ((.l 13), false), []⟩,
       ⟨.bin .gtr false (.l 14) (.c (.int .i64 0)), none, some ((.l 13), false), []⟩,
       ⟨.mv (.l 15), none, some ((.l 13), false), []⟩,
       ⟨.mv (.v 0), none, some ((.l 16), true), []⟩,
       ⟨.mv (.v 3), none, some ((.l 16), true), []⟩,
       ⟨.bin .sub false (.l 18) (.c (.int .i64 1)), none, some ((.l 16), true), []⟩,
       ⟨.indexAddr 1 (.l 17) (.l 19), none, some ((.l 16), true), []⟩,
       ⟨.load false 1 (.l 20), none, some ((.l 16), true), []⟩,
       ⟨.mv (.v 0), none, some ((.l 16), true), []⟩,
       ⟨.mv (.v 3), none, some ((.l 16), true), []⟩,
       ⟨.indexAddr 1 (.l 22) (.l 23), none, some ((.l 16), true), []⟩,
       ⟨.load false 1 (.l 24), none, some ((.l 16), true), []⟩,
       ⟨.bin .geq false (.l 21) (.l 25), none, some ((.l 16), true), []⟩,
       ⟨.pick (.l 16) (.l 26) (.c (.bool false)), none, some ((.l 13), false), []⟩,
       ⟨.pick (.l 13) (.c (.bool true)) (.l 27), some 5, none, []⟩]) (
     .cond (.v 5) (
      .seq (
      .reg [⟨.mv (.c (.bool false)), some 2, none, []⟩]) (
      .ret)) (
      .skip)))) (
    .reg [⟨.mv (.v 3), none, none, []⟩,
      ⟨.bin .add false (.l 0) (.c (.int .i64 1)), none, none, []⟩,
      ⟨.mv (.l 1), some 3, none, []⟩])))))) (
  .seq (
  .reg [⟨.mv (.c (.bool true)), some 2, none, []⟩]) (
  .ret)))⟩

def X17 : XFn :=
 ⟨28, [0, 1, 2, 3, 6], 1, [(4, none)],
  .seq (
  .reg [⟨.box 0 (.v 0), some 3, none, []⟩,
    ⟨.mv (.c (.bool false)), some 4, none, []⟩]) (
  .seq (
  .reg [⟨.fieldAddr 0 (.v 3), none, none, []⟩,
    ⟨.load false 1 (.l 0), none, none, []⟩,
    ⟨.bin .geq false (.l 1) (.c (.int .i64 0)), none, none, []⟩,
    ⟨.mv (.l 2), none, none, []⟩,
    ⟨.fieldAddr 0 (.v 3), none, some ((.l 3), true), []⟩,
    ⟨.load false 1 (.l 4), none, some ((.l 3), true), []⟩,
    ⟨.mv (.v 2), none, some ((.l 3), true), []⟩,
    ⟨.bin .lss false (.l 5) (.l 6), none, some ((.l 3), true), []⟩,
    ⟨.pick (.l 3) (.l 7) (.c (.bool false)), none, none, []⟩,
    ⟨.mv (.l 8), none, none, []⟩,
    ⟨.fieldAddr 1 (.v 3), none, some ((.l 9), true), []⟩,
    ⟨.load false 1 (.l 10), none, some ((.l 9), true), []⟩,
    ⟨.mv (.v 1), none, some ((.l 9), true), []⟩,
    ⟨.call 30 [(.l 11), (.l 12)] [(0, 0)] true, none, some ((.l 9), true), []⟩,
    ⟨.pick (.l 9) (.l 13) (.c (.bool false)), none, none, []⟩,
    ⟨.mv (.l 14), none, none, []⟩,
    ⟨.fieldAddr 2 (.v 3), none, some ((.l 15), true), []⟩,
    ⟨.load false 1 (.l 16), none, some ((.l 15), true), []⟩,
    ⟨.mv (.v 1), none, some ((.l 15), true), []⟩,
    ⟨.call 30 [(.l 17), (.l 18)] [(0, 0)] true, none, some ((.l 15), true), []⟩,
    ⟨.pick (.l 15) (.l 19) (.c (.bool false)), none, none, []⟩,
    ⟨.mv (.l 20), some 4, none, []⟩]) (
  .ret))⟩

def X41 : XFn :=
 ⟨54, [0, 1, 2, 3, 4, 5, 14, 20], 5, [(2, some (true, 4))],
  .seq (
  .reg [⟨.box 0 (.v 0), some 1, none, []⟩,
    ⟨.alloc 1 [(.int .i64 0), (.int .i64 0), .nils, .nils], some 2, none, []⟩]) (
  .seq (
  .reg [⟨.fieldAddr 0 (.v 1), none, none, []⟩,
    ⟨.load false 1 (.l 0), none, none, []⟩,
    ⟨.fieldAddr 1 (.v 1), none, none, []⟩,
    ⟨.load false 1 (.l 2), none, none, []⟩,
    ⟨.call 22 [(.l 1), (.l 3)] [(0, 0), (0, 0), (2, 1), (3, 1)] true, none, none, []⟩,
    ⟨.alloc 4 [(.int .i64 0), (.int .i64 0), .nils, .nils], some 3, none, []⟩,
    ⟨.store 4 (.l 5) (.l 4), none, none, []⟩]) (
  .seq (
  .seq (
  .reg [⟨.mv (.c (.int .i64 0)), some 4, none, []⟩]) (
  .block 0 (
   .loopS [1, 2, 3, 4] 5 (
    .seq (
    .seq (
    .reg [⟨.mv (.v 4), none, none, []⟩,
      ⟨.fieldAddr 1 (.v 1), none, none, []⟩,
      ⟨.load false 1 (.l 1), none, none, []⟩,
      ⟨.bin .lss false (.l 0) (.l 2), some 6, none, []⟩]) (
    .cond (.v 6) (
     .skip) (
     .exit 0))) (
    .seq (
    .block 1 (
     .seq (
     .reg [⟨.mv (.c (.int .i64 0)), some 5, none, []⟩]) (
     .block 2 (
      .loopS [1, 2, 3, 4, 5] 5 (
       .seq (
       .seq (
       .reg [⟨.mv (.v 5), none, none, []⟩,
         ⟨.fieldAddr 0 (.v 1), none, none, []⟩,
         ⟨.load false 1 (.l 1), none, none, []⟩,
         ⟨.bin .lss false (.l 0) (.l 2), some 7, none, []⟩]) (
       .cond (.v 7) (
        .skip) (
        .exit 2))) (
       .seq (
       .block 3 (
        .reg [⟨.fieldAddr 2 (.v 3), none, none, []⟩,
          ⟨.load false 1 (.l 0), none, none, []⟩,
          ⟨.mv (.v 4), none, none, []⟩,
          ⟨.indexAddr 1 (.l 1) (.l 2), none, none, []⟩,
          ⟨.load false 1 (.l 3), none, none, []⟩,
          ⟨.mv (.v 5), none, none, []⟩,
          ⟨.fieldAddr 3 (.v 3), none, none, []⟩,
          ⟨.load false 1 (.l 6), none, none, []⟩,
          ⟨.mv (.v 4), none, none, []⟩,
          ⟨.indexAddr 1 (.l 7) (.l 8), none, none, []⟩,
          ⟨.load false 1 (.l 9), none, none, []⟩,
          ⟨.mv (.v 5), none, none, []⟩,
          ⟨.fieldAddr 2 (.v 1), none, none, []⟩,
          ⟨.load false 1 (.l 12), none, none, []⟩,
          ⟨.mv (.v 4), none, none, []⟩,
          ⟨.indexAddr 1 (.l 13) (.l 14), none, none, []⟩,
          ⟨.load false 1 (.l 15), none, none, []⟩,
          ⟨.mv (.v 5), none, none, []⟩,
          ⟨.indexAddr 1 (.l 16) (.l 17), none, none, []⟩,
          ⟨.load false 1 (.l 18), none, none, []⟩,
          ⟨.fieldAddr 3 (.v 1), none, none, []⟩,
          ⟨.load false 1 (.l 20), none, none, []⟩,
          ⟨.mv (.v 4), none, none, []⟩,
          ⟨.indexAddr 1 (.l 21) (.l 22), none, none, []⟩,
          ⟨.load false 1 (.l 23), none, none, []⟩,
          ⟨.mv (.v 5), none, none, []⟩,
          ⟨.indexAddr 1 (.l 24) (.l 25), none, none, []⟩,
          ⟨.load false 1 (.l 26), none, none, []⟩,
          ⟨.indexAddr 1 (.l 4) (.l 5), none, none, []⟩,
          ⟨.store 1 (.l 28) (.l 19), none, none, []⟩,
          ⟨.indexAddr 1 (.l 10) (.l 11), none, none, []⟩,
          ⟨.store 1 (.l 30) (.l 27), none, none, []⟩])) (
       .reg [⟨.mv (.v 5), none, none, []⟩,
         ⟨.bin .add false (.l 0) (.c (.int .i64 1)), none, none, []⟩,
         ⟨.mv (.l 1), some 5, none, []⟩]))))))) (
    .reg [⟨.mv (.v 4), none, none, []⟩,
      ⟨.bin .add false (.l 0) (.c (.int .i64 1)), none, none, []⟩,
      ⟨.mv (.l 1), some 4, none, []⟩])))))) (
  .seq (
  .reg [⟨.load true 4 (.v 3), none, none, []⟩,
    ⟨.store 4 (.v 2) (.l 0), none, none, []⟩]) (
  .ret))))⟩

def X32 : XFn :=
 ⟨49, [0, 1, 2, 3, 4, 5, 6, 7, 14, 33], 6, [(4, some (true, 4))],
  .seq (
  .reg [⟨.box 0 (.v 0), some 2, none, []⟩,
    ⟨.box 1 (.v 1), some 3, none, []⟩,
    ⟨.alloc 2 [(.int .i64 0), (.int .i64 0), .nils, .nils], some 4, none, []⟩]) (
  .seq (
  .reg [⟨.load true 4 (.v 2), none, none, []⟩,
    ⟨.call 41 [(.l 0)] [(0, 0), (0, 0), (3, 1), (4, 1)] true, none, none, []⟩,
    ⟨.alloc 5 [(.int .i64 0), (.int .i64 0), .nils, .nils], some 5, none, []⟩,
    ⟨.store 4 (.l 2) (.l 1), none, none, []⟩]) (
  .seq (
  .seq (
  .reg [⟨.mv (.c (.int .i64 0)), some 6, none, []⟩]) (
  .block 0 (
   .loopS [3, 4, 5, 6] 6 (
    .seq (
    .seq (
    .reg [⟨.mv (.v 6), none, none, []⟩,
      ⟨.fieldAddr 1 (.v 3), none, none, []⟩,
      ⟨.load false 1 (.l 1), none, none, []⟩,
      ⟨.len false (.l 2), none, none, []⟩,
      ⟨.bin .lss false (.l 0) (.l 3), some 8, none, []⟩]) (
    .cond (.v 8) (
     .skip) (
     .exit 0))) (
    .seq (
    .block 1 (
     .reg [⟨.fieldAddr 2 (.v 5), none, none, []⟩,
       ⟨.load false 1 (.l 0), none, none, []⟩,
       ⟨.fieldAddr 0 (.v 3), none, none, []⟩,
       ⟨.load false 1 (.l 2), none, none, []⟩,
       ⟨.indexAddr 1 (.l 1) (.l 3), none, none, []⟩,
       ⟨.load false 1 (.l 4), none, none, []⟩,
       ⟨.fieldAddr 1 (.v 3), none, none, []⟩,
       ⟨.load false 1 (.l 6), none, none, []⟩,
       ⟨.mv (.v 6), none, none, []⟩,
       ⟨.indexAddr 1 (.l 7) (.l 8), none, none, []⟩,
       ⟨.load false 1 (.l 9), none, none, []⟩,
       ⟨.indexAddr 1 (.l 5) (.l 10), none, none, []⟩,
       ⟨.store 1 (.l 11) (.c (.bool true)), none, none, []⟩])) (
    .reg [⟨.mv (.v 6), none, none, []⟩,
      ⟨.bin .add false (.l 0) (.c (.int .i64 1)), none, none, []⟩,
      ⟨.mv (.l 1), some 6, none, []⟩])))))) (
  .seq (
  .seq (
  .reg [⟨.mv (.c (.int .i64 0)), some 7, none, []⟩]) (
  .block 2 (
   .loopS [3, 4, 5, 7] 6 (
    .seq (
    .seq (
    .reg [⟨.mv (.v 7), none, none, []⟩,
      ⟨.fieldAddr 2 (.v 3), none, none, []⟩,
      ⟨.load false 1 (.l 1), none, none, []⟩,
      ⟨.len false (.l 2), none, none, []⟩,
      ⟨.bin .lss false (.l 0) (.l 3), some 9, none, []⟩]) (
    .cond (.v 9) (
     .skip) (
     .exit 2))) (
    .seq (
    .block 3 (
     .reg [⟨.fieldAddr 3 (.v 5), none, none, []⟩,
       ⟨.load false 1 (.l 0), none, none, []⟩,
       ⟨.fieldAddr 0 (.v 3), none, none, []⟩,
       ⟨.load false 1 (.l 2), none, none, []⟩,
       ⟨.indexAddr 1 (.l 1) (.l 3), none, none, []⟩,
       ⟨.load false 1 (.l 4), none, none, []⟩,
       ⟨.fieldAddr 2 (.v 3), none, none, []⟩,
       ⟨.load false 1 (.l 6), none, none, []⟩,
       ⟨.mv (.v 7), none, none, []⟩,
       ⟨.indexAddr 1 (.l 7) (.l 8), none, none, []⟩,
       ⟨.load false 1 (.l 9), none, none, []⟩,
       ⟨.indexAddr 1 (.l 5) (.l 10), none, none, []⟩,
       ⟨.store 1 (.l 11) (.c (.bool true)), none, none, []⟩])) (
    .reg [⟨.mv (.v 7), none, none, []⟩,
      ⟨.bin .add false (.l 0) (.c (.int .i64 1)), none, none, []⟩,
      ⟨.mv (.l 1), some 7, none, []⟩])))))) (
  .seq (
  .reg [⟨.load true 4 (.v 5), none, none, []⟩,
    ⟨.store 4 (.v 4) (.l 0), none, none, []⟩]) (
  .ret)))))⟩

def X20 : XFn :=
 ⟨59, [0, 1, 2, 6, 7, 8, 9, 23, 31, 36, 46], 6, [(3, some (true, 6))],
  .seq (
  .reg [⟨.alloc 0 [(.int .i64 0), (.int .i64 0), .nils, .nils, (.int .i64 0), (.int .i64 0)], some 3, none, []⟩]) (
  .seq (
  .seq (
  .reg [⟨.mv (.v 0), none, none, []⟩,
    ⟨.bin .lss false (.l 0) (.c (.int .i64 0)), none, none, []⟩,
    ⟨.mv (.l 1), none, none, []⟩,
    ⟨.mv (.v 1), none, some ((.l 2), false), []⟩,
    ⟨.bin .lss false (.l 3) (.c (.int .i64 0)), none, some ((.l 2), false), []⟩,
    ⟨.pick (.l 2) (.c (.bool true)) (.l 4), none, none, []⟩,
    ⟨.mv (.l 5), none, none, []⟩,
    ⟨.mv (.v 0), none, some ((.l 6), false), []⟩,
    ⟨.bin .gtr false (.l 7) (.c (.int .i64 200)), none, some ((.l 6), false), []⟩,
    ⟨.pick (.l 6) (.c (.bool true)) (.l 8), none, none, []⟩,
    ⟨.mv (.l 9), none, none, []⟩,
    ⟨.mv (.v 1), none, some ((.l 10), false), []⟩,
    ⟨.bin .gtr false (.l 11) (.c (.int .i64 200)), none, some ((.l 10), false), []⟩,
    ⟨.pick (.l 10) (.c (.bool true)) (.l 12), some 7, none, []⟩]) (
  .cond (.v 7) (
   .seq (
   .reg [⟨.build [(.int .i64 0), (.int .i64 0), .nils, .nils, (.int .i64 0), (.int .i64 0)] [(5, 1, (.c (.int .i64 1)))], none, none, []⟩,
     ⟨.store 6 (.v 3) (.l 0), none, none, []⟩]) (
  .mat 3 (some 2) 1 1 (
  .mat 3 (some 3) 2 1 (
   .ret)))) (
   .skip))) (
  .seq (
  .reg [⟨.mv (.v 0), none, none, []⟩,
    ⟨.mv (.v 1), none, none, []⟩,
    ⟨.call 22 [(.l 0), (.l 1)] [(0, 0), (0, 0), (1, 1), (2, 1)] true, none, none, []⟩,
    ⟨.alloc 3 [(.int .i64 0), (.int .i64 0), .nils, .nils], some 4, none, []⟩,
    ⟨.store 4 (.l 3) (.l 2), none, none, []⟩]) (
  .seq (
  .reg [⟨.load true 4 (.v 4), none, none, []⟩,
    ⟨.call 21 [(.l 0)] [(0, 0)] true, none, none, []⟩,
    ⟨.mv (.l 1), some 5, none, []⟩]) (
  .seq (
  .seq (
  .reg [⟨.mv (.v 5), none, none, []⟩,
    ⟨.un .not (.l 0), some 8, none, []⟩]) (
  .cond (.v 8) (
   .seq (
   .reg [⟨.build [(.int .i64 0), (.int .i64 0), .nils, .nils, (.int .i64 0), (.int .i64 0)] [(5, 1, (.c (.int .i64 1)))], none, none, []⟩,
     ⟨.store 6 (.v 3) (.l 0), none, none, []⟩]) (
  .mat 3 (some 2) 4 1 (
  .mat 3 (some 3) 5 1 (
   .ret)))) (
   .skip))) (
  .seq (
  .seq (
  .reg [⟨.mv (.c (.int .i64 0)), some 6, none, []⟩]) (
  .block 0 (
   .loopS [0, 1, 2, 3, 4, 6] 6 (
    .seq (
    .seq (
    .reg [⟨.mv (.v 6), none, none, []⟩,
      ⟨.mv (.v 2), none, none, []⟩,
      ⟨.len false (.l 1), none, none, []⟩,
      ⟨.bin .lss false (.l 0) (.l 2), some 9, none, []⟩]) (
    .cond (.v 9) (
     .skip) (
     .exit 0))) (
    .seq (
    .block 1 (
     .seq (
     .seq (
     .reg [⟨.mv (.v 2), none, none, []⟩,
       ⟨.mv (.v 6), none, none, []⟩,
       ⟨.indexAddr 3 (.l 0) (.l 1), none, none, []⟩,
       ⟨.load true 3 (.l 2), none, none, []⟩,
       ⟨.mv (.v 0), none, none, []⟩,
       ⟨.mv (.v 1), none, none, []⟩,
       ⟨.call 17 [(.l 3), (.l 4), (.l 5)] [(0, 0)] true, none, none, []⟩,
       ⟨.un .not (.l 6), some 10, none, []⟩]) (
     .cond (.v 10) (
      .seq (
      .reg [⟨.mv (.v 6), none, none, []⟩,
        ⟨.build [(.int .i64 0), (.int .i64 0), .nils, .nils, (.int .i64 0), (.int .i64 0)] [(4, 1, (.l 0)), (5, 1, (.c (.int .i64 270)))], none, none, []⟩,
        ⟨.store 6 (.v 3) (.l 1), none, none, []⟩]) (
  .mat 3 (some 2) 4 1 (
  .mat 3 (some 3) 5 1 (
      .ret)))) (
      .skip))) (
     .reg [⟨.load true 4 (.v 4), none, none, []⟩,
       ⟨.mv (.v 2), none, none, []⟩,
       ⟨.mv (.v 6), none, none, []⟩,
       ⟨.indexAddr 3 (.l 1) (.l 2), none, none, []⟩,
       ⟨.load true 3 (.l 3), none, none, []⟩,
       ⟨.call 32 [(.l 0), (.l 4)] [(0, 0), (0, 0), (4, 1), (5, 1)] false, none, none, []⟩,
       ⟨.store 4 (.v 4) (.l 5), none, none, []⟩]))) (
    .reg [⟨.mv (.v 6), none, none, []⟩,
      ⟨.bin .add false (.l 0) (.c (.int .i64 1)), none, none, []⟩,
      ⟨.mv (.l 1), some 6, none, []⟩])))))) (
  .seq (
  .reg [⟨.load true 4 (.v 4), none, none, []⟩,
    ⟨.mv (.v 2), none, none, []⟩,
    ⟨.len false (.l 1), none, none, []⟩,
    ⟨.build [(.int .i64 0), (.int .i64 0), .nils, .nils, (.int .i64 0), (.int .i64 0)] [(0, 4, (.l 0)), (4, 1, (.l 2))], none, none, []⟩,
    ⟨.store 6 (.v 3) (.l 3), none, none, []⟩]) (
  .ret)))))))⟩

def X12 : XFn :=
 ⟨56, [0, 1, 4, 5, 10, 14, 55], 0, [(2, none)],
  .seq (
  .reg [⟨.mv (.c (.bool false)), some 2, none, []⟩]) (
  .seq (
  .seq (
  .reg [⟨.mv (.v 0), none, none, []⟩,
    ⟨.len false (.l 0), none, none, []⟩,
    ⟨.mv (.v 1), none, none, []⟩,
    ⟨.len false (.l 2), none, none, []⟩,
    ⟨.bin .neq false (.l 1) (.l 3), some 4, none, []⟩]) (
  .cond (.v 4) (
   .seq (
   .reg [⟨.mv (.c (.bool false)), some 2, none, []⟩]) (
   .ret)) (
   .skip))) (
  .seq (
  .seq (
  .reg [⟨.mv (.c (.int .i64 0)), some 3, none, []⟩]) (
  .block 0 (
   .loopS [0, 1, 3] 0 (
    .seq (
    .seq (
    .reg [⟨.mv (.v 3), none, none, []⟩,
      ⟨.mv (.v 0), none, none, []⟩,
      ⟨.len false (.l 1), none, none, []⟩,
      ⟨.bin .lss false (.l 0) (.l 2), some 5, none, []⟩]) (
    .cond (.v 5) (
     .skip) (
     .exit 0))) (
    .seq (
    .block 1 (
     .seq (
     .reg [⟨.mv (.v 0), none, none, []⟩,
       ⟨.mv (.v 3), none, none, []⟩,
       ⟨.indexAddr 3 (.l 0) (.l 1), none, none, []⟩,
       ⟨.fieldAddr 0 (.l 2), none, none, []⟩,
       ⟨.load false 1 (.l 3), none, none, []⟩,
       ⟨.mv (.v 1), none, none, []⟩,
       ⟨.mv (.v 3), none, none, []⟩,
       ⟨.indexAddr 3 (.l 5) (.l 6), none, none, []⟩,
       ⟨.fieldAddr 0 (.l 7), none, none, []⟩,
       ⟨.load false 1 (.l 8), none, none, []⟩,
       ⟨.bin .neq false (.l 4) (.l 9), none, none, []⟩,
       ⟨.mv (.l 10), none, none, []⟩,
       ⟨.mv (.v 0), none, some ((.l 11), false), []⟩,
       ⟨.mv (.v 3), none, some ((.l 11), false), []⟩,
       ⟨.indexAddr 3 (.l 12) (.l 13), none, some ((.l 11), false), []⟩,
       ⟨.fieldAddr 1 (.l 14), none, some ((.l 11), false), []⟩,
       ⟨.load false 1 (.l 15), none, some ((.l 11), false), []⟩,
       ⟨.mv (.v 1), none, some ((.l 11), false), []⟩,
       ⟨.mv (.v 3), none, some ((.l 11), false), []⟩,
       ⟨.indexAddr 3 (.l 17) (.l 18), none, some ((.l 11), false), []⟩,
       ⟨.fieldAddr 1 (.l 19), none, some ((.l 11), false), []⟩,
       ⟨.load false 1 (.l 20), none, some ((.l 11), false), []⟩,
       ⟨.call 28 [(.l 16), (.l 21)] [(0, 0)] false, none, some ((.l 11), false), []⟩,
       ⟨.un .not (.l 22), none, some ((.l 11), false), []⟩,
       ⟨.pick (.l 11) (.c (.bool true)) (.l 23), none, none, []⟩,
       ⟨.mv (.l 24), none, none, []⟩,
       ⟨.mv (.v 0), none, some ((.l 25), false), []⟩,
       ⟨.mv (.v 3), none, some ((.l 25), false), []⟩,
       ⟨.indexAddr 3 (.l 26) (.l 27), none, some ((.l 25), false), []⟩,
       ⟨.fieldAddr 2 (.l 28), none, some ((.l 25), false), []⟩,
       ⟨.load false 1 (.l 29), none, some ((.l 25), false), []⟩,
       ⟨.mv (.v 1), none, some ((.l 25), false), []⟩,
       ⟨.mv (.v 3), none, some ((.l 25), false), []⟩,
       ⟨.indexAddr 3 (.l 31) (.l 32), none, some ((.l 25), false), []⟩,
       ⟨.fieldAddr 2 (.l 33), none, some ((.l 25), false), []⟩,
       ⟨.load false 1 (.l 34), none, some ((.l 25), false), []⟩,
       ⟨.call 28 [(.l 30), (.l 35)] [(0, 0)] false, none, some ((.l 25), false), []⟩,
       ⟨.un .not (.l 36), none, some ((.l 25), false), []⟩,
       ⟨.pick (.l 25) (.c (.bool true)) (.l 37), some 6, none, []⟩]) (
     .cond (.v 6) (
      .seq (
      .reg [⟨.mv (.c (.bool false)), some 2, none, []⟩]) (
      .ret)) (
      .skip)))) (
    .reg [⟨.mv (.v 3), none, none, []⟩,
      ⟨.bin .add false (.l 0) (.c (.int .i64 1)), none, none, []⟩,
      ⟨.mv (.l 1), some 3, none, []⟩])))))) (
  .seq (
  .reg [⟨.mv (.c (.bool true)), some 2, none, []⟩]) (
  .ret))))⟩

def X28 : XFn :=
 ⟨26, [0, 1, 4, 5, 10, 14, 25], 0, [(2, none)],
  .seq (
  .reg [⟨.mv (.c (.bool false)), some 2, none, []⟩]) (
  .seq (
  .seq (
  .reg [⟨.mv (.v 0), none, none, []⟩,
    ⟨.len false (.l 0), none, none, []⟩,
    ⟨.mv (.v 1), none, none, []⟩,
    ⟨.len false (.l 2), none, none, []⟩,
    ⟨.bin .neq false (.l 1) (.l 3), some 4, none, []⟩]) (
  .cond (.v 4) (
   .seq (
   .reg [⟨.mv (.c (.bool false)), some 2, none, []⟩]) (
   .ret)) (
   .skip))) (
  .seq (
  .seq (
  .reg [⟨.mv (.c (.int .i64 0)), some 3, none, []⟩]) (
  .block 0 (
   .loopS [0, 1, 3] 0 (
    .seq (
    .seq (
    .reg [⟨.mv (.v 3), none, none, []⟩,
      ⟨.mv (.v 0), none, none, []⟩,
      ⟨.len false (.l 1), none, none, []⟩,
      ⟨.bin .lss false (.l 0) (.l 2), some 5, none, []⟩]) (
    .cond (.v 5) (
     .skip) (
     .exit 0))) (
    .seq (
    .block 1 (
     .seq (
     .reg [⟨.mv (.v 0), none, none, []⟩,
       ⟨.mv (.v 3), none, none, []⟩,
       ⟨.indexAddr 1 (.l 0) (.l 1), none, none, []⟩,
       ⟨.load false 1 (.l 2), none, none, []⟩,
       ⟨.mv (.v 1), none, none, []⟩,
       ⟨.mv (.v 3), none, none, []⟩,
       ⟨.indexAddr 1 (.l 4) (.l 5), none, none, []⟩,
       ⟨.load false 1 (.l 6), none, none, []⟩,
       ⟨.bin .neq false (.l 3) (.l 7), some 6, none, []⟩]) (
     .cond (.v 6) (
      .seq (
      .reg [⟨.mv (.c (.bool false)), some 2, none, []⟩]) (
      .ret)) (
      .skip)))) (
    .reg [⟨.mv (.v 3), none, none, []⟩,
      ⟨.bin .add false (.l 0) (.c (.int .i64 1)), none, none, []⟩,
      ⟨.mv (.l 1), some 3, none, []⟩])))))) (
  .seq (
  .reg [⟨.mv (.c (.bool true)), some 2, none, []⟩]) (
  .ret))))⟩

def X13 : XFn :=
 ⟨39, [0, 1, 2, 3, 5, 7, 9, 14, 15, 16, 17, 20, 21, 22, 23, 26, 27, 28, 29, 32], 2, [(2, none)],
  .seq (
  .reg [⟨.box 0 (.v 0), some 1, none, []⟩,
    ⟨.mv (.c (.int .i64 0)), some 2, none, []⟩]) (
  .seq (
  .reg [⟨.mv (.c (.int .i64 0)), some 3, none, []⟩]) (
  .seq (
  .seq (
  .reg [⟨.fieldAddr 2 (.v 1), none, none, []⟩,
    ⟨.load false 1 (.l 0), none, none, []⟩,
    ⟨.fieldAddr 3 (.v 1), none, none, []⟩,
    ⟨.load false 1 (.l 2), none, none, []⟩,
    ⟨.mkarr 1 1 [.nils, .nils] [(0, (.l 1)), (1, (.l 3))], some 7, none, []⟩,
    ⟨.len false (.l 4), some 8, none, []⟩,
    ⟨.mv (.c (.int .i64 0)), some 9, none, []⟩]) (
  .block 0 (
   .loopS [3, 7, 8, 9] 2 (
    .seq (
    .reg [⟨.bin .lss false (.v 9) (.v 8), some 10, none, []⟩]) (
    .seq (
    .cond (.v 10) (
     .skip) (
     .exit 0)) (
    .seq (
    .block 1 (
     .seq (
     .reg [⟨.indexAddr 1 (.v 7) (.v 9), none, none, []⟩,
       ⟨.load false 1 (.l 0), none, none, []⟩,
       ⟨.mv (.l 1), some 4, none, []⟩]) (
     .seq (
     .reg [⟨.mv (.v 4), some 11, none, []⟩,
       ⟨.len false (.l 0), some 12, none, []⟩,
       ⟨.mv (.c (.int .i64 0)), some 13, none, []⟩]) (
     .block 2 (
      .loopS [3, 7, 8, 9, 11, 12, 13] 2 (
       .seq (
       .reg [⟨.bin .lss false (.v 13) (.v 12), some 14, none, []⟩]) (
       .seq (
       .cond (.v 14) (
        .skip) (
        .exit 2)) (
       .seq (
       .block 3 (
        .seq (
        .reg [⟨.indexAddr 1 (.v 11) (.v 13), none, none, []⟩,
          ⟨.load false 1 (.l 0), none, none, []⟩,
          ⟨.mv (.l 1), some 5, none, []⟩]) (
        .seq (
        .reg [⟨.mv (.v 5), some 15, none, []⟩,
          ⟨.len false (.l 0), some 16, none, []⟩,
          ⟨.mv (.c (.int .i64 0)), some 17, none, []⟩]) (
        .block 4 (
         .loopS [3, 7, 8, 9, 11, 12, 13, 15, 16, 17] 2 (
          .seq (
          .reg [⟨.bin .lss false (.v 17) (.v 16), some 18, none, []⟩]) (
          .seq (
          .cond (.v 18) (
           .skip) (
           .exit 4)) (
          .seq (
          .block 5 (
           .seq (
           .reg [⟨.indexAddr 1 (.v 15) (.v 17), none, none, []⟩,
             ⟨.load false 1 (.l 0), none, none, []⟩,
             ⟨.mv (.l 1), some 6, none, []⟩]) (
           .seq (
           .reg [⟨.mv (.v 6), some 19, none, []⟩]) (
           .cond (.v 19) (
            .reg [⟨.mv (.v 3), none, none, []⟩,
              ⟨.bin .add false (.l 0) (.c (.int .i64 1)), none, none, []⟩,
              ⟨.mv (.l 1), some 3, none, []⟩]) (
            .skip))))) (
          .reg [⟨.bin .add false (.v 17) (.c (.int .i64 1)), none, none, []⟩,
            ⟨.mv (.l 0), some 17, none, []⟩]))))))))) (
       .reg [⟨.bin .add false (.v 13) (.c (.int .i64 1)), none, none, []⟩,
         ⟨.mv (.l 0), some 13, none, []⟩]))))))))) (
    .reg [⟨.bin .add false (.v 9) (.c (.int .i64 1)), none, none, []⟩,
      ⟨.mv (.l 0), some 9, none, []⟩]))))))) (
  .seq (
  .reg [⟨.mv (.v 3), none, none, []⟩,
    ⟨.mv (.l 0), some 2, none, []⟩]) (
  .ret))))⟩

def X14 : XFn :=
 ⟨39, [0, 1, 2, 3, 4, 5, 9, 15, 25, 35], 1, [(2, none)],
  .seq (
  .reg [⟨.box 0 (.v 0), some 1, none, []⟩,
    ⟨.mv (.c (.int .i64 0)), some 2, none, []⟩]) (
  .seq (
  .reg [⟨.mv (.c (.int .i64 0)), some 3, none, []⟩]) (
  .seq (
  .seq (
  .reg [⟨.mv (.c (.int .i64 0)), some 4, none, []⟩]) (
  .block 0 (
   .loopS [1, 3, 4] 1 (
    .seq (
    .seq (
    .reg [⟨.mv (.v 4), none, none, []⟩,
      ⟨.fieldAddr 1 (.v 1), none, none, []⟩,
      ⟨.load false 1 (.l 1), none, none, []⟩,
      ⟨.bin .lss false (.l 0) (.l 2), some 6, none, []⟩]) (
    .cond (.v 6) (
     .skip) (
     .exit 0))) (
    .seq (
    .block 1 (
     .seq (
     .reg [⟨.mv (.c (.int .i64 0)), some 5, none, []⟩]) (
     .block 2 (
      .loopS [1, 3, 4, 5] 1 (
       .seq (
       .seq (
       .reg [⟨.mv (.v 5), none, none, []⟩,
         ⟨.fieldAddr 0 (.v 1), none, none, []⟩,
         ⟨.load false 1 (.l 1), none, none, []⟩,
         ⟨.bin .lss false (.l 0) (.l 2), some 7, none, []⟩]) (
       .cond (.v 7) (
        .skip) (
        .exit 2))) (
       .seq (
       .block 3 (
        .seq (
        .seq (
        .reg [⟨.fieldAddr 2 (.v 1), none, none, []⟩,
          ⟨.load false 1 (.l 0), none, none, []⟩,
          ⟨.mv (.v 4), none, none, []⟩,
          ⟨.indexAddr 1 (.l 1) (.l 2), none, none, []⟩,
          ⟨.load false 1 (.l 3), none, none, []⟩,
          ⟨.mv (.v 5), none, none, []⟩,
          ⟨.indexAddr 1 (.l 4) (.l 5), none, none, []⟩,
          ⟨.load false 1 (.l 6), some 8, none, []⟩]) (
        .cond (.v 8) (
         .reg [⟨.mv (.v 3), none, none, []⟩,
           ⟨.bin .add false (.l 0) (.c (.int .i64 1)), none, none, []⟩,
           ⟨.mv (.l 1), some 3, none, []⟩]) (
         .skip))) (
        .seq (
        .reg [⟨.fieldAddr 3 (.v 1), none, none, []⟩,
          ⟨.load false 1 (.l 0), none, none, []⟩,
          ⟨.mv (.v 4), none, none, []⟩,
          ⟨.indexAddr 1 (.l 1) (.l 2), none, none, []⟩,
          ⟨.load false 1 (.l 3), none, none, []⟩,
          ⟨.mv (.v 5), none, none, []⟩,
          ⟨.indexAddr 1 (.l 4) (.l 5), none, none, []⟩,
          ⟨.load false 1 (.l 6), some 9, none, []⟩]) (
        .cond (.v 9) (
         .reg [⟨.mv (.v 3), none, none, []⟩,
           ⟨.bin .add false (.l 0) (.c (.int .i64 1)), none, none, []⟩,
           ⟨.mv (.l 1), some 3, none, []⟩]) (
         .skip))))) (
       .reg [⟨.mv (.v 5), none, none, []⟩,
         ⟨.bin .add false (.l 0) (.c (.int .i64 1)), none, none, []⟩,
         ⟨.mv (.l 1), some 5, none, []⟩]))))))) (
    .reg [⟨.mv (.v 4), none, none, []⟩,
      ⟨.bin .add false (.l 0) (.c (.int .i64 1)), none, none, []⟩,
      ⟨.mv (.l 1), some 4, none, []⟩])))))) (
  .seq (
  .reg [⟨.mv (.v 3), none, none, []⟩,
    ⟨.mv (.l 0), some 2, none, []⟩]) (
  .ret))))⟩

def X15 : XFn :=
 ⟨24, [0, 1, 2, 3, 4], 2, [(4, none)],
  .seq (
  .reg [⟨.box 0 (.v 0), some 2, none, []⟩,
    ⟨.box 1 (.v 1), some 3, none, []⟩,
    ⟨.mv (.c (.bool false)), some 4, none, []⟩]) (
  .seq (
  .reg [⟨.fieldAddr 4 (.v 2), none, none, []⟩,
    ⟨.load false 1 (.l 0), none, none, []⟩,
    ⟨.fieldAddr 4 (.v 3), none, none, []⟩,
    ⟨.load false 1 (.l 2), none, none, []⟩,
    ⟨.bin .eql false (.l 1) (.l 3), none, none, []⟩,
    ⟨.mv (.l 4), none, none, []⟩,
    ⟨.fieldAddr 5 (.v 2), none, some ((.l 5), true), []⟩,
    ⟨.load false 1 (.l 6), none, some ((.l 5), true), []⟩,
    ⟨.fieldAddr 5 (.v 3), none, some ((.l 5), true), []⟩,
    ⟨.load false 1 (.l 8), none, some ((.l 5), true), []⟩,
    ⟨.bin .eql false (.l 7) (.l 9), none, some ((.l 5), true), []⟩,
    ⟨.pick (.l 5) (.l 10) (.c (.bool false)), none, none, []⟩,
    ⟨.mv (.l 11), none, none, []⟩,
    ⟨.fieldAddr 0 (.v 2), none, some ((.l 12), true), []⟩,
    ⟨.load true 4 (.l 13), none, some ((.l 12), true), []⟩,
    ⟨.fieldAddr 0 (.v 3), none, some ((.l 12), true), []⟩,
    ⟨.load true 4 (.l 15), none, some ((.l 12), true), []⟩,
    ⟨.call 23 [(.l 14), (.l 16)] [(0, 0)] true, none, some ((.l 12), true), []⟩,
    ⟨.pick (.l 12) (.l 17) (.c (.bool false)), none, none, []⟩,
    ⟨.mv (.l 18), some 4, none, []⟩]) (
  .ret))⟩

def X23 : XFn :=
 ⟨31, [0, 1, 2, 3, 4], 2, [(4, none)],
  .seq (
  .reg [⟨.box 0 (.v 0), some 2, none, []⟩,
    ⟨.box 1 (.v 1), some 3, none, []⟩,
    ⟨.mv (.c (.bool false)), some 4, none, []⟩]) (
  .seq (
  .reg [⟨.fieldAddr 0 (.v 2), none, none, []⟩,
    ⟨.load false 1 (.l 0), none, none, []⟩,
    ⟨.fieldAddr 0 (.v 3), none, none, []⟩,
    ⟨.load false 1 (.l 2), none, none, []⟩,
    ⟨.bin .eql false (.l 1) (.l 3), none, none, []⟩,
    ⟨.mv (.l 4), none, none, []⟩,
    ⟨.fieldAddr 1 (.v 2), none, some ((.l 5), true), []⟩,
    ⟨.load false 1 (.l 6), none, some ((.l 5), true), []⟩,
    ⟨.fieldAddr 1 (.v 3), none, some ((.l 5), true), []⟩,
    ⟨.load false 1 (.l 8), none, some ((.l 5), true), []⟩,
    ⟨.bin .eql false (.l 7) (.l 9), none, some ((.l 5), true), []⟩,
    ⟨.pick (.l 5) (.l 10) (.c (.bool false)), none, none, []⟩,
    ⟨.mv (.l 11), none, none, []⟩,
    ⟨.fieldAddr 2 (.v 2), none, some ((.l 12), true), []⟩,
    ⟨.load false 1 (.l 13), none, some ((.l 12), true), []⟩,
    ⟨.fieldAddr 2 (.v 3), none, some ((.l 12), true), []⟩,
    ⟨.load false 1 (.l 15), none, some ((.l 12), true), []⟩,
    ⟨.call 34 [(.l 14), (.l 16)] [(0, 0)] true, none, some ((.l 12), true), []⟩,
    ⟨.pick (.l 12) (.l 17) (.c (.bool false)), none, none, []⟩,
    ⟨.mv (.l 18), none, none, []⟩,
    ⟨.fieldAddr 3 (.v 2), none, some ((.l 19), true), []⟩,
    ⟨.load false 1 (.l 20), none, some ((.l 19), true), []⟩,
    ⟨.fieldAddr 3 (.v 3), none, some ((.l 19), true), []⟩,
    ⟨.load false 1 (.l 22), none, some ((.l 19), true), []⟩,
    ⟨.call 34 [(.l 21), (.l 23)] [(0, 0)] true, none, some ((.l 19), true), []⟩,
    ⟨.pick (.l 19) (.l 24) (.c (.bool false)), none, none, []⟩,
    ⟨.mv (.l 25), some 4, none, []⟩]) (
  .ret))⟩

def X34 : XFn :=
 ⟨53, [0, 1, 4, 5, 6, 11, 15, 28, 35, 52], 0, [(2, none)],
  .seq (
  .reg [⟨.mv (.c (.bool false)), some 2, none, []⟩]) (
  .seq (
  .seq (
  .reg [⟨.mv (.v 0), none, none, []⟩,
    ⟨.len false (.l 0), none, none, []⟩,
    ⟨.mv (.v 1), none, none, []⟩,
    ⟨.len false (.l 2), none, none, []⟩,
    ⟨.bin .neq false (.l 1) (.l 3), some 5, none, []⟩]) (
  .cond (.v 5) (
   .seq (
   .reg [⟨.mv (.c (.bool false)), some 2, none, []⟩]) (
   .ret)) (
   .skip))) (
  .seq (
  .seq (
  .reg [⟨.mv (.c (.int .i64 0)), some 3, none, []⟩]) (
  .block 0 (
   .loopS [0, 1, 3] 0 (
    .seq (
    .seq (
    .reg [⟨.mv (.v 3), none, none, []⟩,
      ⟨.mv (.v 0), none, none, []⟩,
      ⟨.len false (.l 1), none, none, []⟩,
      ⟨.bin .lss false (.l 0) (.l 2), some 6, none, []⟩]) (
    .cond (.v 6) (
     .skip) (
     .exit 0))) (
    .seq (
    .block 1 (
     .seq (
     .seq (
     .reg [⟨.mv (.v 0), none, none, []⟩,
       ⟨.mv (.v 3), none, none, []⟩,
       ⟨.indexAddr 1 (.l 0) (.l 1), none, none, []⟩,
       ⟨.load false 1 (.l 2), none, none, []⟩,
       ⟨.len false (.l 3), none, none, []⟩,
       ⟨.mv (.v 1), none, none, []⟩,
       ⟨.mv (.v 3), none, none, []⟩,
       ⟨.indexAddr 1 (.l 5) (.l 6), none, none, []⟩,
       ⟨.load false 1 (.l 7), none, none, []⟩,
       ⟨.len false (.l 8), none, none, []⟩,
       ⟨.bin .neq false (.l 4) (.l 9), some 7, none, []⟩]) (
     .cond (.v 7) (
      .seq (
      .reg [⟨.mv (.c (.bool false)), some 2, none, []⟩]) (
      .ret)) (
      .skip))) (
     .seq (
     .reg [⟨.mv (.c (.int .i64 0)), some 4, none, []⟩]) (
     .block 2 (
      .loopS [0, 1, 3, 4] 0 (
       .seq (
       .seq (
       .reg [⟨.mv (.v 4), none, none, []⟩,
         ⟨.mv (.v 0), none, none, []⟩,
         ⟨.mv (.v 3), none, none, []⟩,
         ⟨.indexAddr 1 (.l 1) (.l 2), none, none, []⟩,
         ⟨.load false 1 (.l 3), none, none, []⟩,
         ⟨.len false (.l 4), none, none, []⟩,
         ⟨.bin .lss false (.l 0) (.l 5), some 8, none, []⟩]) (
       .cond (.v 8) (
        .skip) (
        .exit 2))) (
       .seq (
       .block 3 (
        .seq (
        .reg [⟨.mv (.v 0), none, none, []⟩,
          ⟨.mv (.v 3), none, none, []⟩,
          ⟨.indexAddr 1 (.l 0) (.l 1), none, none, []⟩,
          ⟨.load false 1 (.l 2), none, none, []⟩,
          ⟨.mv (.v 4), none, none, []⟩,
          ⟨.indexAddr 1 (.l 3) (.l 4), none, none, []⟩,
          ⟨.load false 1 (.l 5), none, none, []⟩,
          ⟨.mv (.v 1), none, none, []⟩,
          ⟨.mv (.v 3), none, none, []⟩,
          ⟨.indexAddr 1 (.l 7) (.l 8), none, none, []⟩,
          ⟨.load false 1 (.l 9), none, none, []⟩,
          ⟨.mv (.v 4), none, none, []⟩,
          ⟨.indexAddr 1 (.l 10) (.l 11), none, none, []⟩,
          ⟨.load false 1 (.l 12), none, none, []⟩,
          ⟨.bin .neq true (.l 6) (.l 13), some 9, none, []⟩]) (
        .cond (.v 9) (
         .seq (
         .reg [⟨.mv (.c (.bool false)), some 2, none, []⟩]) (
         .ret)) (
         .skip)))) (
       .reg [⟨.mv (.v 4), none, none, []⟩,
         ⟨.bin .add false (.l 0) (.c (.int .i64 1)), none, none, []⟩,
         ⟨.mv (.l 1), some 4, none, []⟩])))))))) (
    .reg [⟨.mv (.v 3), none, none, []⟩,
      ⟨.bin .add false (.l 0) (.c (.int .i64 1)), none, none, []⟩,
      ⟨.mv (.l 1), some 3, none, []⟩])))))) (
  .seq (
  .reg [⟨.mv (.c (.bool true)), some 2, none, []⟩]) (
  .ret))))⟩

def X16 : XFn :=
 ⟨22, [0, 1, 2, 6, 7, 8, 9], 4, [(3, some (true, 6))],
  .seq (
  .reg [⟨.alloc 0 [(.int .i64 0), (.int .i64 0), .nils, .nils, (.int .i64 0), (.int .i64 0)], some 3, none, []⟩]) (
  .seq (
  .reg [⟨.mv (.v 0), none, none, []⟩,
    ⟨.mv (.v 1), none, none, []⟩,
    ⟨.mv (.v 2), none, none, []⟩,
    ⟨.call 29 [(.l 0), (.l 1), (.l 2)] [(0, 0), (0, 0), (1, 1), (2, 1), (0, 0), (0, 0)] true, none, none, []⟩,
    ⟨.mv (.l 3), none, none, []⟩,
    ⟨.extract (.l 4) 0, none, none, []⟩,
    ⟨.extract (.l 4) 1, none, none, []⟩,
    ⟨.extract (.l 4) 2, none, none, []⟩,
    ⟨.alloc 3 [(.int .i64 0), (.int .i64 0), .nils, .nils], some 4, none, []⟩,
    ⟨.store 4 (.l 8) (.l 5), none, none, []⟩,
    ⟨.mv (.l 6), some 5, none, []⟩,
    ⟨.mv (.l 7), some 6, none, []⟩]) (
  .seq (
  .reg [⟨.load true 4 (.v 4), none, none, []⟩,
    ⟨.mv (.v 5), none, none, []⟩,
    ⟨.mv (.v 6), none, none, []⟩,
    ⟨.build [(.int .i64 0), (.int .i64 0), .nils, .nils, (.int .i64 0), (.int .i64 0)] [(0, 4, (.l 0)), (4, 1, (.l 1)), (5, 1, (.l 2))], none, none, []⟩,
    ⟨.store 6 (.v 3) (.l 3), none, none, []⟩]) (
  .ret)))⟩

def X29 : XFn :=
 ⟨104, [0, 1, 2, 6, 7, 8, 9, 10, 11, 25, 38, 40, 41, 42, 43, 69], 7, [(3, some (true, 4)), (4, none), (5, none)],
  .seq (
  .reg [⟨.alloc 0 [(.int .i64 0), (.int .i64 0), .nils, .nils], some 3, none, []⟩,
    ⟨.mv (.c (.int .i64 0)), some 4, none, []⟩,
    ⟨.mv (.c (.int .i64 0)), some 5, none, []⟩]) (
  .seq (
  .seq (
  .reg [⟨.mv (.v 0), none, none, []⟩,
    ⟨.bin .lss false (.l 0) (.c (.int .i64 48)), none, none, []⟩,
    ⟨.mv (.l 1), none, none, []⟩,
    ⟨.mv (.v 0), none, some ((.l 2), false), []⟩,
    ⟨.bin .gtr false (.l 3) (.c (.int .i64 120)), none, some ((.l 2), false), []⟩,
    ⟨.pick (.l 2) (.c (.bool true)) (.l 4), none, none, []⟩,
    ⟨.mv (.l 5), none, none, []⟩,
    ⟨.mv (.v 1), none, some ((.l 6), false), []⟩,
    ⟨.bin .lss false (.l 7) (.c (.int .i64 12)), none, some ((.l 6), false), []⟩,
    ⟨.pick (.l 6) (.c (.bool true)) (.l 8), none, none, []⟩,
    ⟨.mv (.l 9), none, none, []⟩,
    ⟨.mv (.v 1), none, some ((.l 10), false), []⟩,
    ⟨.bin .gtr false (.l 11) (.c (.int .i64 120)), none, some ((.l 10), false), []⟩,
    ⟨.pick (.l 10) (.c (.bool true)) (.l 12), some 9, none, []⟩]) (
  .cond (.v 9) (
   .seq (
   .reg [⟨.build [(.int .i64 0), (.int .i64 0), .nils, .nils] [], none, none, []⟩,
     ⟨.store 4 (.v 3) (.l 0), none, none, []⟩,
     ⟨.mv (.c (.int .i64 0)), some 4, none, []⟩,
     ⟨.mv (.c (.int .i64 1)), some 5, none, []⟩]) (
  .mat 3 (some 2) 5 1 (
  .mat 3 (some 3) 6 1 (
   .ret)))) (
   .skip))) (
  .seq (
  .reg [⟨.mv (.v 0), none, none, []⟩,
    ⟨.mv (.v 1), none, none, []⟩,
    ⟨.mv (.v 0), none, none, []⟩,
    ⟨.mv (.v 1), none, none, []⟩,
    ⟨.call 37 [(.l 2), (.l 3)] [(1, 1)] true, none, none, []⟩,
    ⟨.mv (.v 0), none, none, []⟩,
    ⟨.mv (.v 1), none, none, []⟩,
    ⟨.call 37 [(.l 5), (.l 6)] [(2, 1)] true, none, none, []⟩,
    ⟨.build [(.int .i64 0), (.int .i64 0), .nils, .nils] [(0, 1, (.l 0)), (1, 1, (.l 1)), (2, 1, (.l 4)), (3, 1, (.l 7))], none, none, []⟩,
    ⟨.alloc 3 [(.int .i64 0), (.int .i64 0), .nils, .nils], some 6, none, []⟩,
    ⟨.store 4 (.l 9) (.l 8), none, none, []⟩]) (
  .seq (
  .seq (
  .reg [⟨.load true 4 (.v 6), none, none, []⟩,
    ⟨.call 24 [(.l 0)] [(0, 0)] true, none, none, []⟩,
    ⟨.un .not (.l 1), some 10, none, []⟩]) (
  .cond (.v 10) (
   .seq (
   .reg [⟨.build [(.int .i64 0), (.int .i64 0), .nils, .nils] [], none, none, []⟩,
     ⟨.store 4 (.v 3) (.l 0), none, none, []⟩,
     ⟨.mv (.c (.int .i64 0)), some 4, none, []⟩,
     ⟨.mv (.c (.int .i64 1)), some 5, none, []⟩]) (
  .mat 3 (some 2) 5 1 (
  .mat 3 (some 3) 6 1 (
   .ret)))) (
   .skip))) (
  .seq (
  .seq (
  .reg [⟨.mv (.v 2), some 11, none, []⟩,
    ⟨.len false (.l 0), some 12, none, []⟩,
    ⟨.mv (.c (.int .i64 0)), some 13, none, []⟩]) (
  .block 0 (
   .loopS [0, 1, 2, 3, 6, 11, 12, 13] 7 (
    .seq (
    .reg [⟨.bin .lss false (.v 13) (.v 12), some 14, none, []⟩]) (
    .seq (
    .cond (.v 14) (
     .skip) (
     .exit 0)) (
    .seq (
    .block 1 (
     .seq (
     .reg [⟨.mv (.v 13), none, none, []⟩,
       ⟨.indexAddr 3 (.v 11) (.v 13), none, none, []⟩,
       ⟨.load true 3 (.l 1), none, none, []⟩,
       ⟨.alloc 4 [(.int .i64 0), .nils, .nils], some 8, none, []⟩,
       ⟨.mv (.l 0), some 7, none, []⟩,
       ⟨.store 3 (.l 3) (.l 2), none, none, []⟩]) (
     .seq (
     .seq (
     .reg [⟨.fieldAddr 0 (.v 8), none, none, []⟩,
       ⟨.load false 1 (.l 0), none, none, []⟩,
       ⟨.bin .lss false (.l 1) (.c (.int .i64 0)), none, none, []⟩,
       ⟨.mv (.l 2), none, none, []⟩,
       ⟨.fieldAddr 0 (.v 8), none, some ((.l 3), false), []⟩,
       ⟨.load false 1 (.l 4), none, some ((.l 3), false), []⟩,
       ⟨.mv (.v 1), none, some ((.l 3), false), []⟩,
       ⟨.bin .geq false (.l 5) (.l 6), none, some ((.l 3), false), []⟩,
       ⟨.pick (.l 3) (.c (.bool true)) (.l 7), none, none, []⟩,
       ⟨.mv (.l 8), none, none, []⟩,
       ⟨.fieldAddr 1 (.v 8), none, some ((.l 9), false), []⟩,
       ⟨.load false 1 (.l 10), none, some ((.l 9), false), []⟩,
       ⟨.mv (.v 0), none, some ((.l 9), false), []⟩,
       ⟨.call 38 [(.l 11), (.l 12)] [(0, 0)] true, none, some ((.l 9), false), []⟩,
       ⟨.un .not (.l 13), none, some ((.l 9), false), []⟩,
       ⟨.pick (.l 9) (.c (.bool true)) (.l 14), none, none, []⟩,
       ⟨.mv (.l 15), none, none, []⟩,
       ⟨.fieldAddr 2 (.v 8), none, some ((.l 16), false), []⟩,
       ⟨.load false 1 (.l 17), none, some ((.l 16), false), []⟩,
       ⟨.mv (.v 0), none, some ((.l 16), false), []⟩,
       ⟨.call 38 [(.l 18), (.l 19)] [(0, 0)] true, none, some ((.l 16), false), []⟩,
       ⟨.un .not (.l 20), none, some ((.l 16), false), []⟩,
       ⟨.pick (.l 16) (.c (.bool true)) (.l 21), some 15, none, []⟩]) (
     .cond (.v 15) (
      .seq (
      .reg [⟨.build [(.int .i64 0), (.int .i64 0), .nils, .nils] [], none, none, []⟩,
        ⟨.mv (.v 7), none, none, []⟩,
        ⟨.store 4 (.v 3) (.l 0), none, none, []⟩,
        ⟨.mv (.l 1), some 4, none, []⟩,
        ⟨.mv (.c (.int .i64 270)), some 5, none, []⟩]) (
  .mat 3 (some 2) 5 1 (
  .mat 3 (some 3) 6 1 (
      .ret)))) (
      .skip))) (
     .seq (
     .reg [⟨.fieldAddr 2 (.v 6), none, none, [5]⟩,
       ⟨.load false 1 (.l 0), none, none, [5]⟩,
       ⟨.fieldAddr 0 (.v 8), none, none, [5]⟩,
       ⟨.load false 1 (.l 2), none, none, [5]⟩,
       ⟨.fieldAddr 2 (.v 6), none, none, []⟩,
       ⟨.load false 1 (.l 4), none, none, []⟩,
       ⟨.fieldAddr 0 (.v 8), none, none, []⟩,
       ⟨.load false 1 (.l 6), none, none, []⟩,
       ⟨.indexAddr 1 (.l 5) (.l 7), none, none, []⟩,
       ⟨.load false 1 (.l 8), none, none, []⟩,
       ⟨.fieldAddr 1 (.v 8), none, none, []⟩,
       ⟨.load false 1 (.l 10), none, none, []⟩,
       ⟨.call 39 [(.l 9), (.l 11)] [(5, 1)] false, none, none, []⟩,
       ⟨.indexAddr 1 (.l 1) (.l 3), none, none, []⟩,
       ⟨.store 1 (.l 13) (.l 12), none, none, []⟩]) (
     .reg [⟨.fieldAddr 3 (.v 6), none, none, [6]⟩,
       ⟨.load false 1 (.l 0), none, none, [6]⟩,
       ⟨.fieldAddr 0 (.v 8), none, none, [6]⟩,
       ⟨.load false 1 (.l 2), none, none, [6]⟩,
       ⟨.fieldAddr 3 (.v 6), none, none, []⟩,
       ⟨.load false 1 (.l 4), none, none, []⟩,
       ⟨.fieldAddr 0 (.v 8), none, none, []⟩,
       ⟨.load false 1 (.l 6), none, none, []⟩,
       ⟨.indexAddr 1 (.l 5) (.l 7), none, none, []⟩,
       ⟨.load false 1 (.l 8), none, none, []⟩,
       ⟨.fieldAddr 2 (.v 8), none, none, []⟩,
       ⟨.load false 1 (.l 10), none, none, []⟩,
       ⟨.call 39 [(.l 9), (.l 11)] [(6, 1)] false, none, none, []⟩,
       ⟨.indexAddr 1 (.l 1) (.l 3), none, none, []⟩,
       ⟨.store 1 (.l 13) (.l 12), none, none, []⟩]))))) (
    .reg [⟨.bin .add false (.v 13) (.c (.int .i64 1)), none, none, []⟩,
      ⟨.mv (.l 0), some 13, none, []⟩]))))))) (
  .seq (
  .reg [⟨.load true 4 (.v 6), none, none, []⟩,
    ⟨.mv (.v 2), none, none, []⟩,
    ⟨.len false (.l 1), none, none, []⟩,
    ⟨.store 4 (.v 3) (.l 0), none, none, []⟩,
    ⟨.mv (.l 2), some 4, none, []⟩,
    ⟨.mv (.c (.int .i64 0)), some 5, none, []⟩]) (
  .ret))))))⟩

def X37 : XFn :=
 ⟨21, [0, 1, 4, 5, 6, 10, 11, 12], 2, [(2, none)],
  .seq (
  .reg [⟨.mv (.c .nils), some 2, none, []⟩]) (
  .seq (
  .reg [⟨.mv (.v 1), none, none, []⟩,
    ⟨.makeSlice 0 1 24 (.slc []) (.l 0) (.l 0), none, none, []⟩,
    ⟨.mv (.l 1), some 3, none, []⟩]) (
  .seq (
  .seq (
  .reg [⟨.mv (.v 3), none, none, []⟩,
    ⟨.len false (.l 0), some 5, none, []⟩,
    ⟨.mv (.c (.int .i64 0)), some 6, none, []⟩]) (
  .block 0 (
   .loopS [0, 3, 5, 6] 2 (
    .seq (
    .reg [⟨.bin .lss false (.v 6) (.v 5), some 7, none, []⟩]) (
    .seq (
    .cond (.v 7) (
     .skip) (
     .exit 0)) (
    .seq (
    .block 1 (
     .seq (
     .reg [⟨.mv (.v 6), none, none, []⟩,
       ⟨.mv (.l 0), some 4, none, []⟩]) (
     .reg [⟨.mv (.v 3), none, none, []⟩,
       ⟨.mv (.v 4), none, none, []⟩,
       ⟨.mv (.v 0), none, none, []⟩,
       ⟨.makeSlice 1 1 1 (.bool false) (.l 2) (.l 2), none, none, []⟩,
       ⟨.indexAddr 1 (.l 0) (.l 1), none, none, []⟩,
       ⟨.store 1 (.l 4) (.l 3), none, none, []⟩]))) (
    .reg [⟨.bin .add false (.v 6) (.c (.int .i64 1)), none, none, []⟩,
      ⟨.mv (.l 0), some 6, none, []⟩]))))))) (
  .seq (
  .reg [⟨.mv (.v 3), none, none, []⟩,
    ⟨.mv (.l 0), some 2, none, []⟩]) (
  .ret))))⟩

def X38 : XFn :=
 ⟨24, [0, 1, 4, 5, 7, 8, 9, 10, 11, 21], 0, [(2, none)],
  .seq (
  .reg [⟨.mv (.c (.bool false)), some 2, none, []⟩]) (
  .seq (
  .reg [⟨.mv (.c (.int .i64 (-1))), some 3, none, []⟩]) (
  .seq (
  .seq (
  .reg [⟨.mv (.v 0), some 5, none, []⟩,
    ⟨.len false (.l 0), some 6, none, []⟩,
    ⟨.mv (.c (.int .i64 0)), some 7, none, []⟩]) (
  .block 0 (
   .loopS [1, 3, 5, 6, 7] 0 (
    .seq (
    .reg [⟨.bin .lss false (.v 7) (.v 6), some 8, none, []⟩]) (
    .seq (
    .cond (.v 8) (
     .skip) (
     .exit 0)) (
    .seq (
    .block 1 (
     .seq (
     .reg [⟨.indexAddr 1 (.v 5) (.v 7), none, none, []⟩,
       ⟨.load false 1 (.l 0), none, none, []⟩,
       ⟨.mv (.l 1), some 4, none, []⟩]) (
     .seq (
     .seq (
     .reg [⟨.mv (.v 4), none, none, []⟩,
       ⟨.mv (.v 3), none, none, []⟩,
       ⟨.bin .leq false (.l 0) (.l 1), none, none, []⟩,
       ⟨.mv (.l 2), none, none, []⟩,
       ⟨.mv (.v 4), none, some ((.l 3), false), []⟩,
       ⟨.mv (.v 1), none, some ((.l 3), false), []⟩,
       ⟨.bin .geq false (.l 4) (.l 5), none, some ((.l 3), false), []⟩,
       ⟨.pick (.l 3) (.c (.bool true)) (.l 6), some 9, none, []⟩]) (
     .cond (.v 9) (
      .seq (
      .reg [⟨.mv (.c (.bool false)), some 2, none, []⟩]) (
      .ret)) (
      .skip))) (
     .reg [⟨.mv (.v 4), none, none, []⟩,
       ⟨.mv (.l 0), some 3, none, []⟩])))) (
    .reg [⟨.bin .add false (.v 7) (.c (.int .i64 1)), none, none, []⟩,
      ⟨.mv (.l 0), some 7, none, []⟩]))))))) (
  .seq (
  .reg [⟨.mv (.c (.bool true)), some 2, none, []⟩]) (
  .ret))))⟩

def X39 : XFn :=
 ⟨25, [0, 1, 4, 5, 7, 14, 15, 16, 17], 1, [(2, none)],
  .seq (
  .reg [⟨.mv (.c .nils), some 2, none, []⟩]) (
  .seq (
  .reg [⟨.mv (.v 0), none, none, []⟩,
    ⟨.len false (.l 0), none, none, []⟩,
    ⟨.makeSlice 0 1 1 (.bool false) (.l 1) (.l 1), none, none, []⟩,
    ⟨.mv (.l 2), some 3, none, []⟩]) (
  .seq (
  .reg [⟨.mv (.v 3), none, none, []⟩,
    ⟨.mv (.v 0), none, none, []⟩,
    ⟨.copy 1 (.l 0) (.l 1), none, none, []⟩]) (
  .seq (
  .seq (
  .reg [⟨.mv (.v 1), some 5, none, []⟩,
    ⟨.len false (.l 0), some 6, none, []⟩,
    ⟨.mv (.c (.int .i64 0)), some 7, none, []⟩]) (
  .block 0 (
   .loopS [3, 5, 6, 7] 1 (
    .seq (
    .reg [⟨.bin .lss false (.v 7) (.v 6), some 8, none, []⟩]) (
    .seq (
    .cond (.v 8) (
     .skip) (
     .exit 0)) (
    .seq (
    .block 1 (
     .seq (
     .reg [⟨.indexAddr 1 (.v 5) (.v 7), none, none, []⟩,
       ⟨.load false 1 (.l 0), none, none, []⟩,
       ⟨.mv (.l 1), some 4, none, []⟩]) (
     .reg [⟨.mv (.v 3), none, none, []⟩,
       ⟨.mv (.v 4), none, none, []⟩,
       ⟨.indexAddr 1 (.l 0) (.l 1), none, none, []⟩,
       ⟨.store 1 (.l 2) (.c (.bool true)), none, none, []⟩]))) (
    .reg [⟨.bin .add false (.v 7) (.c (.int .i64 1)), none, none, []⟩,
      ⟨.mv (.l 0), some 7, none, []⟩]))))))) (
  .seq (
  .reg [⟨.mv (.v 3), none, none, []⟩,
    ⟨.mv (.l 0), some 2, none, []⟩]) (
  .ret)))))⟩

def X40 : XFn :=
 ⟨32, [0, 1, 4, 5, 6, 7, 12, 26], 3, [(2, none)],
  .seq (
  .reg [⟨.mv (.c .nils), some 2, none, []⟩]) (
  .seq (
  .reg [⟨.mkarr 0 1 [] [], none, none, []⟩,
    ⟨.mv (.l 0), some 3, none, []⟩,
    ⟨.mv (.c (.int .i64 (-1))), some 4, none, []⟩]) (
  .seq (
  .seq (
  .reg [⟨.mv (.c (.int .i64 0)), some 5, none, []⟩]) (
  .block 0 (
   .loopS [0, 1, 3, 4, 5] 3 (
    .seq (
    .seq (
    .reg [⟨.mv (.v 5), none, none, []⟩,
      ⟨.mv (.v 0), none, none, []⟩,
      ⟨.len false (.l 1), none, none, []⟩,
      ⟨.bin .lss false (.l 0) (.l 2), some 6, none, []⟩]) (
    .cond (.v 6) (
     .skip) (
     .exit 0))) (
    .seq (
    .block 1 (
     .seq (
     .reg [⟨.mv (.v 4), none, none, []⟩,
       ⟨.mv (.v 0), none, none, []⟩,
       ⟨.mv (.v 5), none, none, []⟩,
       ⟨.indexAddr 1 (.l 1) (.l 2), none, none, []⟩,
       ⟨.load false 1 (.l 3), none, none, []⟩,
       ⟨.bin .rem false (.l 4) (.c (.int .u8 8)), none, none, []⟩,
       ⟨.conv .i64 (.l 5), none, none, []⟩,
       ⟨.bin .add false (.c (.int .i64 1)) (.l 6), none, none, []⟩,
       ⟨.bin .add false (.l 0) (.l 7), none, none, []⟩,
       ⟨.mv (.l 8), some 4, none, []⟩]) (
     .seq (
     .reg [⟨.mv (.v 4), none, none, []⟩,
       ⟨.mv (.v 1), none, none, []⟩,
       ⟨.bin .lss false (.l 0) (.l 1), some 7, none, []⟩]) (
     .cond (.v 7) (
      .reg [⟨.mv (.v 3), none, none, []⟩,
        ⟨.mv (.v 4), none, none, []⟩,
        ⟨.mkarr 1 1 [(.int .i64 0)] [(0, (.l 1))], none, none, []⟩,
        ⟨.append 2 1 8 1 (.l 0) (.l 2), none, none, []⟩,
        ⟨.mv (.l 3), some 3, none, []⟩]) (
      .skip))))) (
    .reg [⟨.mv (.v 5), none, none, []⟩,
      ⟨.bin .add false (.l 0) (.c (.int .i64 1)), none, none, []⟩,
      ⟨.mv (.l 1), some 5, none, []⟩])))))) (
  .seq (
  .reg [⟨.mv (.v 3), none, none, []⟩,
    ⟨.mv (.l 0), some 2, none, []⟩]) (
  .ret))))⟩

def X31 : XFn :=
 ⟨21, [0, 1, 2, 3, 6], 4, [(4, some (true, 3))],
  .seq (
  .reg [⟨.box 0 (.v 0), some 3, none, []⟩,
    ⟨.alloc 1 [(.int .i64 0), .nils, .nils], some 4, none, []⟩]) (
  .seq (
  .reg [⟨.fieldAddr 0 (.v 3), none, none, [2, 3]⟩,
    ⟨.load false 1 (.l 0), none, none, [2, 3]⟩,
    ⟨.conv .i64 (.l 1), none, none, [2, 3]⟩,
    ⟨.mv (.v 2), none, none, [2, 3]⟩,
    ⟨.bin .rem false (.l 2) (.l 3), none, none, [2, 3]⟩,
    ⟨.fieldAddr 1 (.v 3), none, none, []⟩,
    ⟨.load false 1 (.l 5), none, none, []⟩,
    ⟨.mv (.v 1), none, none, []⟩,
    ⟨.call 40 [(.l 6), (.l 7)] [(2, 1)] false, none, none, []⟩,
    ⟨.fieldAddr 2 (.v 3), none, none, [2]⟩,
    ⟨.load false 1 (.l 9), none, none, [2]⟩,
    ⟨.mv (.v 1), none, none, [2]⟩,
    ⟨.call 40 [(.l 10), (.l 11)] [(3, 1)] false, none, none, []⟩,
    ⟨.build [(.int .i64 0), .nils, .nils] [(0, 1, (.l 4)), (1, 1, (.l 8)), (2, 1, (.l 12))], none, none, []⟩,
    ⟨.store 3 (.v 4) (.l 13), none, none, []⟩]) (
  .ret))⟩

def X19 : XFn :=
 ⟨47, [0, 1, 2, 6, 7, 8, 17, 35], 5, [(3, none)],
  .seq (
  .reg [⟨.mv (.c .nils), some 3, none, []⟩]) (
  .seq (
  .reg [⟨.mkarr 0 3 [] [], none, none, []⟩,
    ⟨.mv (.l 0), some 4, none, []⟩]) (
  .seq (
  .seq (
  .reg [⟨.mv (.c (.int .i64 0)), some 5, none, []⟩]) (
  .block 0 (
   .loopS [0, 1, 2, 4, 5] 5 (
    .seq (
    .seq (
    .reg [⟨.mv (.v 5), none, none, []⟩,
      ⟨.mv (.v 0), none, none, []⟩,
      ⟨.len false (.l 1), none, none, []⟩,
      ⟨.bin .lss false (.l 0) (.l 2), none, none, []⟩,
      ⟨.mv (.l 3), none, none, []⟩,
      ⟨.mv (.v 5), none, some ((.l 4), true), []⟩,
      ⟨.bin .lss false (.l 5) (.c (.int .i64 6)), none, some ((.l 4), true), []⟩,
      ⟨.pick (.l 4) (.l 6) (.c (.bool false)), some 6, none, []⟩]) (
    .cond (.v 6) (
     .skip) (
     .exit 0))) (
    .seq (
    .block 1 (
     .seq (
     .reg [⟨.mv (.v 0), none, none, []⟩,
       ⟨.mv (.v 5), none, none, []⟩,
       ⟨.indexAddr 3 (.l 0) (.l 1), none, none, []⟩,
       ⟨.fieldAddr 1 (.l 2), none, none, []⟩,
       ⟨.load false 1 (.l 3), none, none, []⟩,
       ⟨.len false (.l 4), none, none, []⟩,
       ⟨.bin .leq false (.l 5) (.c (.int .i64 60)), none, none, []⟩,
       ⟨.mv (.l 6), none, none, []⟩,
       ⟨.mv (.v 0), none, some ((.l 7), true), []⟩,
       ⟨.mv (.v 5), none, some ((.l 7), true), []⟩,
       ⟨.indexAddr 3 (.l 8) (.l 9), none, some ((.l 7), true), []⟩,
       ⟨.fieldAddr 2 (.l 10), none, some ((.l 7), true), []⟩,
       ⟨.load false 1 (.l 11), none, some ((.l 7), true), []⟩,
       ⟨.len false (.l 12), none, some ((.l 7), true), []⟩,
       ⟨.bin .leq false (.l 13) (.c (.int .i64 60)), none, some ((.l 7), true), []⟩,
       ⟨.pick (.l 7) (.l 14) (.c (.bool false)), some 7, none, []⟩]) (
     .cond (.v 7) (
      .reg [⟨.mv (.v 4), none, none, []⟩,
        ⟨.mv (.v 0), none, none, []⟩,
        ⟨.mv (.v 5), none, none, []⟩,
        ⟨.indexAddr 3 (.l 1) (.l 2), none, none, []⟩,
        ⟨.load true 3 (.l 3), none, none, []⟩,
        ⟨.mv (.v 1), none, none, []⟩,
        ⟨.mv (.v 2), none, none, []⟩,
        ⟨.call 31 [(.l 4), (.l 5), (.l 6)] [(0, 0), (1, 1), (2, 1)] true, none, none, []⟩,
        ⟨.mkarr 3 3 [(.agg [(.int .i64 0), .nils, .nils])] [(0, (.l 7))], none, none, []⟩,
        ⟨.append 4 3 56 1 (.l 0) (.l 8), none, none, []⟩,
        ⟨.mv (.l 9), some 4, none, []⟩]) (
      .skip)))) (
    .reg [⟨.mv (.v 5), none, none, []⟩,
      ⟨.bin .add false (.l 0) (.c (.int .i64 1)), none, none, []⟩,
      ⟨.mv (.l 1), some 5, none, []⟩])))))) (
  .seq (
  .reg [⟨.mv (.v 4), none, none, []⟩,
    ⟨.mv (.l 0), some 3, none, []⟩]) (
  .ret))))⟩

def X18 : XFn :=
 ⟨97, [0, 1, 3, 4, 5, 6, 12, 28, 47, 60, 78], 13, [(3, none)],
  .seq (
  .reg [⟨.box 0 (.v 1), some 2, none, []⟩,
    ⟨.mv (.c .nils), some 3, none, []⟩]) (
  .seq (
  .reg [⟨.mkarr 1 3 [] [], none, none, []⟩,
    ⟨.mv (.v 0), none, none, []⟩,
    ⟨.append 1 3 56 2 (.l 0) (.l 1), none, none, []⟩,
    ⟨.mv (.l 2), some 4, none, []⟩]) (
  .seq (
  .seq (
  .reg [⟨.mv (.v 4), none, none, []⟩,
    ⟨.len false (.l 0), none, none, []⟩,
    ⟨.bin .eql false (.l 1) (.c (.int .i64 0)), some 6, none, []⟩]) (
  .cond (.v 6) (
   .seq (
   .reg [⟨.mv (.v 4), none, none, []⟩,
     ⟨.fieldAddr 4 (.v 2), none, none, []⟩,
     ⟨.load false 1 (.l 1), none, none, []⟩,
     ⟨.conv .i64 (.l 2), none, none, []⟩,
     ⟨.build [(.int .i64 0), .nils, .nils] [(0, 1, (.l 3))], none, none, []⟩,
     ⟨.mkarr 3 3 [(.agg [(.int .i64 0), .nils, .nils])] [(0, (.l 4))], none, none, []⟩,
     ⟨.append 4 3 56 1 (.l 0) (.l 5), none, none, []⟩,
     ⟨.mv (.l 6), some 3, none, []⟩]) (
   .ret)) (
   .skip))) (
  .seq (
  .reg [⟨.fieldAddr 2 (.v 2), none, none, []⟩,
    ⟨.load false 1 (.l 0), none, none, []⟩,
    ⟨.conv .i64 (.l 1), none, none, []⟩,
    ⟨.mv (.v 4), none, none, []⟩,
    ⟨.len false (.l 3), none, none, []⟩,
    ⟨.bin .rem false (.l 2) (.l 4), none, none, []⟩,
    ⟨.mv (.l 5), some 5, none, []⟩]) (
  .seq (
  .seq (
  .reg [⟨.fieldAddr 3 (.v 2), none, none, []⟩,
    ⟨.load false 1 (.l 0), none, none, []⟩,
    ⟨.bin .rem false (.l 1) (.c (.int .u8 4)), some 7, none, []⟩]) (
  .block 0 (
   .seq (
   .reg [⟨.bin .eql false (.v 7) (.c (.int .u8 0)), none, none, []⟩,
     ⟨.mv (.l 0), some 8, none, []⟩]) (
   .cond (.v 8) (
    .reg [⟨.mv (.v 4), none, none, []⟩,
      ⟨.mv (.v 5), none, none, []⟩,
      ⟨.indexAddr 3 (.l 0) (.l 1), none, none, []⟩,
      ⟨.fieldAddr 0 (.l 2), none, none, []⟩,
      ⟨.load false 1 (.l 3), none, none, []⟩,
      ⟨.fieldAddr 4 (.v 2), none, none, []⟩,
      ⟨.load false 1 (.l 5), none, none, []⟩,
      ⟨.conv .i64 (.l 6), none, none, []⟩,
      ⟨.bin .add false (.l 4) (.l 7), none, none, []⟩,
      ⟨.indexAddr 3 (.l 0) (.l 1), none, none, []⟩,
      ⟨.fieldAddr 0 (.l 9), none, none, []⟩,
      ⟨.store 1 (.l 10) (.l 8), none, none, []⟩]) (
    .seq (
    .reg [⟨.bin .eql false (.v 7) (.c (.int .u8 1)), none, none, []⟩,
      ⟨.mv (.l 0), some 9, none, []⟩]) (
    .cond (.v 9) (
     .reg [⟨.mv (.v 4), none, none, [5, 5, 7, 8]⟩,
       ⟨.mv (.v 5), none, none, [5, 5, 7, 8]⟩,
       ⟨.mkarr 5 1 [] [], none, none, [7]⟩,
       ⟨.mv (.v 4), none, none, [5, 7]⟩,
       ⟨.mv (.v 5), none, none, [5, 7]⟩,
       ⟨.indexAddr 3 (.l 3) (.l 4), none, none, [5, 7]⟩,
       ⟨.fieldAddr 1 (.l 5), none, none, [5, 7]⟩,
       ⟨.load false 1 (.l 6), none, none, [5, 7]⟩,
       ⟨.append 5 1 8 2 (.l 2) (.l 7), none, none, [7]⟩,
       ⟨.fieldAddr 4 (.v 2), none, none, [5, 5]⟩,
       ⟨.load false 1 (.l 9), none, none, [5, 5]⟩,
       ⟨.conv .i64 (.l 10), none, none, [5, 5]⟩,
       ⟨.mkarr 7 1 [(.int .i64 0)] [(0, (.l 11))], none, none, [5, 5]⟩,
       ⟨.append 8 1 8 1 (.l 8) (.l 12), none, none, []⟩,
       ⟨.indexAddr 3 (.l 0) (.l 1), none, none, []⟩,
       ⟨.fieldAddr 1 (.l 14), none, none, []⟩,
       ⟨.store 1 (.l 15) (.l 13), none, none, []⟩]) (
     .seq (
     .reg [⟨.bin .eql false (.v 7) (.c (.int .u8 2)), none, none, []⟩,
       ⟨.mv (.l 0), some 10, none, []⟩]) (
     .cond (.v 10) (
      .reg [⟨.mv (.v 4), none, none, [9, 9, 11, 12]⟩,
        ⟨.mv (.v 5), none, none, [9, 9, 11, 12]⟩,
        ⟨.mkarr 9 1 [] [], none, none, [11]⟩,
        ⟨.mv (.v 4), none, none, [9, 11]⟩,
        ⟨.mv (.v 5), none, none, [9, 11]⟩,
        ⟨.indexAddr 3 (.l 3) (.l 4), none, none, [9, 11]⟩,
        ⟨.fieldAddr 2 (.l 5), none, none, [9, 11]⟩,
        ⟨.load false 1 (.l 6), none, none, [9, 11]⟩,
        ⟨.append 9 1 8 2 (.l 2) (.l 7), none, none, [11]⟩,
        ⟨.fieldAddr 4 (.v 2), none, none, [9, 9]⟩,
        ⟨.load false 1 (.l 9), none, none, [9, 9]⟩,
        ⟨.conv .i64 (.l 10), none, none, [9, 9]⟩,
        ⟨.mkarr 11 1 [(.int .i64 0)] [(0, (.l 11))], none, none, [9, 9]⟩,
        ⟨.append 12 1 8 1 (.l 8) (.l 12), none, none, []⟩,
        ⟨.indexAddr 3 (.l 0) (.l 1), none, none, []⟩,
        ⟨.fieldAddr 2 (.l 14), none, none, []⟩,
        ⟨.store 1 (.l 15) (.l 13), none, none, []⟩]) (
      .reg [⟨.mv (.v 4), none, none, []⟩,
        ⟨.mv (.v 5), none, none, []⟩,
        ⟨.mv (.v 4), none, none, []⟩,
        ⟨.mv (.v 5), none, none, []⟩,
        ⟨.mv (.v 4), none, none, []⟩,
        ⟨.mv (.v 5), none, none, []⟩,
        ⟨.indexAddr 3 (.l 4) (.l 5), none, none, []⟩,
        ⟨.fieldAddr 2 (.l 6), none, none, []⟩,
        ⟨.load false 1 (.l 7), none, none, []⟩,
        ⟨.mv (.v 4), none, none, []⟩,
        ⟨.mv (.v 5), none, none, []⟩,
        ⟨.indexAddr 3 (.l 9) (.l 10), none, none, []⟩,
        ⟨.fieldAddr 1 (.l 11), none, none, []⟩,
        ⟨.load false 1 (.l 12), none, none, []⟩,
        ⟨.indexAddr 3 (.l 0) (.l 1), none, none, []⟩,
        ⟨.fieldAddr 1 (.l 14), none, none, []⟩,
        ⟨.store 1 (.l 15) (.l 8), none, none, []⟩,
        ⟨.indexAddr 3 (.l 2) (.l 3), none, none, []⟩,
        ⟨.fieldAddr 2 (.l 17), none, none, []⟩,
        ⟨.store 1 (.l 18) (.l 13), none, none, []⟩]))))))))) (
  .seq (
  .reg [⟨.mv (.v 4), none, none, []⟩,
    ⟨.mv (.l 0), some 3, none, []⟩]) (
  .ret))))))⟩

def X25 : XFn :=
 ⟨9, [0, 1, 2, 3, 4, 6], 13, [(4, none)],
  .seq (
  .reg [⟨.box 11 (.v 0), some 2, none, []⟩,
    ⟨.box 12 (.v 1), some 3, none, []⟩,
    ⟨.mv (.c (.lit .nilFunc)), some 4, none, []⟩]) (
  .frz [(3, true), (11, false)] (
  .seq (
  .seq (
  .reg [⟨.load false 1 (.v 3), none, none, []⟩,
    ⟨.bin .lss false (.l 0) (.c (.int .i64 1)), some 5, none, []⟩]) (
  .cond (.v 5) (
   .reg [⟨.stuck, none, none, []⟩,
     ⟨.stuck, none, none, []⟩]) (
   .skip))) (
  .seq (
  .reg [⟨.mkfn (.func 36) [] [(.v 2), (.v 3)], none, none, []⟩,
    ⟨.mv (.l 0), some 4, none, []⟩]) (
  .ret))))⟩

def X36 : XFn :=
 ⟨31, [0, 1, 2, 4, 5, 9, 30], 13, [],
  .seq (
  .reg [⟨.mv (.c (.int .i64 0)), some 3, none, []⟩]) (
  .block 0 (
   .loop (
    .seq (
    .seq (
    .reg [⟨.mv (.v 3), none, none, []⟩,
      ⟨.load false 1 (.v 1), none, none, []⟩,
      ⟨.len false (.l 1), none, none, []⟩,
      ⟨.bin .lss false (.l 0) (.l 2), some 5, none, []⟩]) (
    .cond (.v 5) (
     .skip) (
     .exit 0))) (
    .seq (
    .block 1 (
     .seq (
     .reg [⟨.load false 1 (.v 2), none, none, []⟩,
       ⟨.load false 1 (.v 1), none, none, []⟩,
       ⟨.mv (.v 3), none, none, []⟩,
       ⟨.slice false 1 (.l 1) (some (.l 2)) none none, none, none, []⟩,
       ⟨.len false (.l 3), none, none, []⟩,
       ⟨.minmax false [(.l 0), (.l 4)], none, none, []⟩,
       ⟨.mv (.l 5), some 4, none, []⟩]) (
     .seq (
     .reg [⟨.mv (.v 0), none, none, []⟩,
       ⟨.load false 1 (.v 1), none, none, []⟩,
       ⟨.mv (.v 3), none, none, []⟩,
       ⟨.mv (.v 3), none, none, []⟩,
       ⟨.mv (.v 4), none, none, []⟩,
       ⟨.bin .add false (.l 3) (.l 4), none, none, []⟩,
       ⟨.mv (.v 3), none, none, []⟩,
       ⟨.mv (.v 4), none, none, []⟩,
       ⟨.bin .add false (.l 6) (.l 7), none, none, []⟩,
       ⟨.slice false 1 (.l 1) (some (.l 2)) (some (.l 5)) (some (.l 8)), none, none, []⟩,
       ⟨.cally (.l 0) [(.l 9)], none, none, []⟩,
       ⟨.un .not (.l 10), some 6, none, []⟩]) (
     .cond (.v 6) (
      .ret) (
      .skip))))) (
    .reg [⟨.mv (.v 3), none, none, []⟩,
      ⟨.load false 1 (.v 2), none, none, []⟩,
      ⟨.bin .add false (.l 0) (.l 1), none, none, []⟩,
      ⟨.mv (.l 2), some 3, none, []⟩])))))⟩

theorem c10 : compFn Try.prog 10 = some { X10 with body := strip X10.body } := by kernel_rfl
theorem c21 : compFn Try.prog 21 = some { X21 with body := strip X21.body } := by kernel_rfl
theorem c24 : compFn Try.prog 24 = some { X24 with body := strip X24.body } := by kernel_rfl
theorem c35 : compFn Try.prog 35 = some { X35 with body := strip X35.body } := by kernel_rfl
theorem c33 : compFn Try.prog 33 = some { X33 with body := strip X33.body } := by kernel_rfl
theorem c26 : compFn Try.prog 26 = some { X26 with body := strip X26.body } := by kernel_rfl
theorem c27 : compFn Try.prog 27 = some { X27 with body := strip X27.body } := by kernel_rfl
theorem c9 : compFn Try.prog 9 = some { X9 with body := strip X9.body } := by kernel_rfl
theorem c11 : compFn Try.prog 11 = some { X11 with body := strip X11.body } := by kernel_rfl
theorem c22 : compFn Try.prog 22 = some { X22 with body := strip X22.body } := by kernel_rfl
theorem c30 : compFn Try.prog 30 = some { X30 with body := strip X30.body } := by kernel_rfl
theorem c17 : compFn Try.prog 17 = some { X17 with body := strip X17.body } := by kernel_rfl
theorem c41 : compFn Try.prog 41 = some { X41 with body := strip X41.body } := by kernel_rfl
theorem c32 : compFn Try.prog 32 = some { X32 with body := strip X32.body } := by kernel_rfl
theorem c20 : compFn Try.prog 20 = some { X20 with body := strip X20.body } := by kernel_rfl
theorem c12 : compFn Try.prog 12 = some { X12 with body := strip X12.body } := by kernel_rfl
theorem c28 : compFn Try.prog 28 = some { X28 with body := strip X28.body } := by kernel_rfl
theorem c13 : compFn Try.prog 13 = some { X13 with body := strip X13.body } := by kernel_rfl
theorem c14 : compFn Try.prog 14 = some { X14 with body := strip X14.body } := by kernel_rfl
theorem c15 : compFn Try.prog 15 = some { X15 with body := strip X15.body } := by kernel_rfl
theorem c23 : compFn Try.prog 23 = some { X23 with body := strip X23.body } := by kernel_rfl
theorem c34 : compFn Try.prog 34 = some { X34 with body := strip X34.body } := by kernel_rfl
theorem c16 : compFn Try.prog 16 = some { X16 with body := strip X16.body } := by kernel_rfl
theorem c29 : compFn Try.prog 29 = some { X29 with body := strip X29.body } := by kernel_rfl
theorem c37 : compFn Try.prog 37 = some { X37 with body := strip X37.body } := by kernel_rfl
theorem c38 : compFn Try.prog 38 = some { X38 with body := strip X38.body } := by kernel_rfl
theorem c39 : compFn Try.prog 39 = some { X39 with body := strip X39.body } := by kernel_rfl
theorem c40 : compFn Try.prog 40 = some { X40 with body := strip X40.body } := by kernel_rfl
theorem c31 : compFn Try.prog 31 = some { X31 with body := strip X31.body } := by kernel_rfl
theorem c19 : compFn Try.prog 19 = some { X19 with body := strip X19.body } := by kernel_rfl
theorem c18 : compFn Try.prog 18 = some { X18 with body := strip X18.body } := by kernel_rfl
theorem c25 : compFnAt Try.prog 25 11 = some { X25 with body := strip X25.body } := by kernel_rfl
theorem c36 : compFnAt Try.prog 36 13 = some { X36 with body := stripF X36.body } := by kernel_rfl
end Go.Proofs.Ytalgbgeocpbadaa.K
