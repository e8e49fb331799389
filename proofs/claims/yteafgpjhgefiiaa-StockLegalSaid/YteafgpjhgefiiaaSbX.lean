/-
  Chapter 30: the functions, as the machine takes them (printed).
-/
import Derived.Test.YteafgpjhgefiiaaProg
import Derived.KernelRfl
import Derived.Test.YteafgpjhgefiiaaAmY
import Derived.Test.YteafgpjhgefiiaaAmZs
namespace Go.Proofs.Yteafgpjhgefiiaa.S
set_option linter.unusedSimpArgs false
set_option linter.unusedVariables false
set_option linter.unusedSectionVars false
open Go.Proofs.Yteafgpjhgefiiaa.Am
theorem mixed : Try.prog.follows .mixedOrders = true := by kernel_rfl
def X11 : XFn :=
 ⟨28, [0, 1, 4, 5, 6, 16], 5, [(2, none)],
  .seq (
  .reg [⟨.mv (.c .nils), some 2, none, []⟩]) (
  .seq (
  .reg [⟨.mkarr 0 4 [] [], none, none, []⟩,
    ⟨.mv (.l 0), some 3, none, []⟩]) (
  .seq (
  .seq (
  .reg [⟨.mv (.c (.int .i64 0)), some 4, none, []⟩]) (
  .block 0 (
   .loopS [0, 1, 3, 4] 5 (
    .seq (
    .seq (
    .reg [⟨.mv (.v 4), none, none, []⟩,
      ⟨.mv (.v 0), none, none, []⟩,
      ⟨.len false (.l 1), none, none, []⟩,
      ⟨.bin .lss false (.l 0) (.l 2), none, none, []⟩,
      ⟨.mv (.l 3), none, none, []⟩,
      ⟨.mv (.v 4), none, some ((.l 4), true), []⟩,
      ⟨.mv (.v 1), none, some ((.l 4), true), []⟩,
      ⟨.bin .lss false (.l 5) (.l 6), none, some ((.l 4), true), []⟩,
      ⟨.pick (.l 4) (.l 7) (.c (.bool false)), some 5, none, []⟩]) (
    .cond (.v 5) (
     .skip) (
     .exit 0))) (
    .seq (
    .block 1 (
     .reg [⟨.mv (.v 3), none, none, []⟩,
       ⟨.mv (.v 0), none, none, []⟩,
       ⟨.mv (.v 4), none, none, []⟩,
       ⟨.indexAddr 1 (.l 1) (.l 2), none, none, []⟩,
       ⟨.load false 1 (.l 3), none, none, []⟩,
       ⟨.call 23 [(.l 4)] [(0, 0), (0, 0), (1, 1), (2, 1)] true, none, none, []⟩,
       ⟨.mkarr 3 4 [(.agg [(.int .i64 0), (.int .i64 0), .nils, .nils])] [(0, (.l 5))], none, none, []⟩,
       ⟨.append 4 4 64 1 (.l 0) (.l 6), none, none, []⟩,
       ⟨.mv (.l 7), some 3, none, []⟩])) (
    .reg [⟨.mv (.v 4), none, none, []⟩,
      ⟨.bin .add false (.l 0) (.c (.int .i64 1)), none, none, []⟩,
      ⟨.mv (.l 1), some 4, none, []⟩])))))) (
  .seq (
  .reg [⟨.mv (.v 3), none, none, []⟩,
    ⟨.mv (.l 0), some 2, none, []⟩]) (
  .ret))))⟩

def X12 : XFn :=
 ⟨43, [0, 1, 4, 5, 6, 7, 8, 9, 17, 18, 19, 20, 33], 6, [(2, some (true, 2))],
  .seq (
  .reg [⟨.alloc 0 [.nils, (.int .i64 0)], some 2, none, []⟩]) (
  .seq (
  .reg [⟨.mv (.v 0), none, none, []⟩,
    ⟨.len false (.l 0), none, none, []⟩,
    ⟨.makeSlice 1 1 1 (.bool false) (.l 1) (.l 1), none, none, []⟩,
    ⟨.alloc 2 [.nils], some 3, none, []⟩,
    ⟨.store 1 (.l 3) (.l 2), none, none, []⟩]) (
  .seq (
  .reg [⟨.mv (.v 1), none, none, []⟩,
    ⟨.len false (.l 0), none, none, []⟩,
    ⟨.makeSlice 3 1 8 (.int .i64 0) (.l 1) (.l 1), none, none, []⟩,
    ⟨.build [.nils, (.int .i64 0)] [(0, 1, (.l 2))], none, none, []⟩,
    ⟨.alloc 4 [.nils, (.int .i64 0)], some 4, none, []⟩,
    ⟨.store 2 (.l 4) (.l 3), none, none, []⟩]) (
  .seq (
  .seq (
  .reg [⟨.mv (.v 1), some 8, none, []⟩,
    ⟨.len false (.l 0), some 9, none, []⟩,
    ⟨.mv (.c (.int .i64 0)), some 10, none, []⟩]) (
  .block 0 (
   .loopS [0, 2, 3, 4, 8, 9, 10] 6 (
    .seq (
    .reg [⟨.bin .lss false (.v 10) (.v 9), some 11, none, []⟩]) (
    .seq (
    .cond (.v 11) (
     .skip) (
     .exit 0)) (
    .seq (
    .block 1 (
     .seq (
     .reg [⟨.mv (.v 10), none, none, []⟩,
       ⟨.indexAddr 4 (.v 8) (.v 10), none, none, []⟩,
       ⟨.load true 4 (.l 1), none, none, []⟩,
       ⟨.alloc 5 [(.int .i64 0), (.int .i64 0), .nils, .nils], some 6, none, []⟩,
       ⟨.mv (.l 0), some 5, none, []⟩,
       ⟨.store 4 (.l 3) (.l 2), none, none, []⟩]) (
     .seq (
     .reg [⟨.mv (.v 0), none, none, []⟩,
       ⟨.mkfn (.func 25) [] [(.v 3), (.v 6)], none, none, []⟩,
       ⟨.callv (.c (.fn (.func 24) [] [])) [(.l 0), (.l 1)], none, none, []⟩,
       ⟨.mv (.l 2), some 7, none, []⟩]) (
     .seq (
     .reg [⟨.fieldAddr 0 (.v 4), none, none, []⟩,
       ⟨.load false 1 (.l 0), none, none, []⟩,
       ⟨.mv (.v 5), none, none, []⟩,
       ⟨.mv (.v 7), none, none, []⟩,
       ⟨.indexAddr 1 (.l 1) (.l 2), none, none, []⟩,
       ⟨.store 1 (.l 4) (.l 3), none, none, []⟩]) (
     .seq (
     .reg [⟨.mv (.v 7), none, none, []⟩,
       ⟨.bin .lss false (.l 0) (.c (.int .i64 0)), some 12, none, []⟩]) (
     .cond (.v 12) (
      .reg [⟨.fieldAddr 1 (.v 4), none, none, []⟩,
        ⟨.load false 1 (.l 0), none, none, []⟩,
        ⟨.bin .add false (.l 1) (.c (.int .i64 1)), none, none, []⟩,
        ⟨.fieldAddr 1 (.v 4), none, none, []⟩,
        ⟨.store 1 (.l 3) (.l 2), none, none, []⟩]) (
      .reg [⟨.load false 1 (.v 3), none, none, []⟩,
        ⟨.mv (.v 7), none, none, []⟩,
        ⟨.indexAddr 1 (.l 0) (.l 1), none, none, []⟩,
        ⟨.store 1 (.l 2) (.c (.bool true)), none, none, []⟩]))))))) (
    .reg [⟨.bin .add false (.v 10) (.c (.int .i64 1)), none, none, []⟩,
      ⟨.mv (.l 0), some 10, none, []⟩]))))))) (
  .seq (
  .reg [⟨.load true 2 (.v 4), none, none, []⟩,
    ⟨.store 2 (.v 2) (.l 0), none, none, []⟩]) (
  .ret)))))⟩

def X13 : XFn :=
 ⟨53, [0, 1, 4, 5, 6, 7, 8, 13, 20, 38, 41], 4, [(2, some (true, 2))],
  .seq (
  .reg [⟨.alloc 0 [.nils, (.int .i64 0)], some 2, none, []⟩]) (
  .seq (
  .reg [⟨.build [.nils, (.int .i64 0)] [], none, none, []⟩,
    ⟨.alloc 1 [.nils, (.int .i64 0)], some 3, none, []⟩,
    ⟨.store 2 (.l 1) (.l 0), none, none, []⟩]) (
  .seq (
  .seq (
  .reg [⟨.mv (.c (.int .i64 0)), some 4, none, []⟩]) (
  .block 0 (
   .loopS [0, 1, 2, 3, 4] 4 (
    .seq (
    .seq (
    .reg [⟨.mv (.v 4), none, none, []⟩,
      ⟨.mv (.v 1), none, none, []⟩,
      ⟨.len false (.l 1), none, none, []⟩,
      ⟨.bin .lss false (.l 0) (.l 2), some 7, none, []⟩]) (
    .cond (.v 7) (
     .skip) (
     .exit 0))) (
    .seq (
    .block 1 (
     .seq (
     .reg [⟨.mv (.c (.int .i64 (-1))), some 5, none, []⟩]) (
     .seq (
     .seq (
     .reg [⟨.mv (.v 0), none, none, []⟩,
       ⟨.len false (.l 0), none, none, []⟩,
       ⟨.bin .sub false (.l 1) (.c (.int .i64 1)), none, none, []⟩,
       ⟨.mv (.l 2), some 6, none, []⟩]) (
     .block 2 (
      .loopS [0, 1, 2, 3, 4, 5, 6] 4 (
       .seq (
       .seq (
       .reg [⟨.mv (.v 6), none, none, []⟩,
         ⟨.bin .geq false (.l 0) (.c (.int .i64 0)), some 8, none, []⟩]) (
       .cond (.v 8) (
        .skip) (
        .exit 2))) (
       .seq (
       .block 3 (
        .seq (
        .reg [⟨.fieldAddr 0 (.v 3), none, none, []⟩,
          ⟨.load false 1 (.l 0), none, none, []⟩,
          ⟨.mv (.v 6), none, none, []⟩,
          ⟨.call 27 [(.l 1), (.l 2)] [(0, 0)] false, none, none, []⟩,
          ⟨.un .not (.l 3), none, none, []⟩,
          ⟨.mv (.l 4), none, none, []⟩,
          ⟨.mv (.v 0), none, some ((.l 5), true), []⟩,
          ⟨.mv (.v 6), none, some ((.l 5), true), []⟩,
          ⟨.indexAddr 4 (.l 6) (.l 7), none, some ((.l 5), true), []⟩,
          ⟨.load true 4 (.l 8), none, some ((.l 5), true), []⟩,
          ⟨.mv (.v 1), none, some ((.l 5), true), []⟩,
          ⟨.mv (.v 4), none, some ((.l 5), true), []⟩,
          ⟨.indexAddr 4 (.l 10) (.l 11), none, some ((.l 5), true), []⟩,
          ⟨.load true 4 (.l 12), none, some ((.l 5), true), []⟩,
          ⟨.call 28 [(.l 9), (.l 13)] [(0, 0)] false, none, some ((.l 5), true), []⟩,
          ⟨.pick (.l 5) (.l 14) (.c (.bool false)), some 9, none, []⟩]) (
        .cond (.v 9) (
         .reg [⟨.mv (.v 6), none, none, []⟩,
           ⟨.mv (.l 0), some 5, none, []⟩]) (
         .skip)))) (
       .reg [⟨.mv (.v 6), none, none, []⟩,
         ⟨.bin .sub false (.l 0) (.c (.int .i64 1)), none, none, []⟩,
         ⟨.mv (.l 1), some 6, none, []⟩])))))) (
     .seq (
     .seq (
     .reg [⟨.mv (.v 5), none, none, []⟩,
       ⟨.bin .lss false (.l 0) (.c (.int .i64 0)), some 10, none, []⟩]) (
     .cond (.v 10) (
      .reg [⟨.fieldAddr 1 (.v 3), none, none, []⟩,
        ⟨.load false 1 (.l 0), none, none, []⟩,
        ⟨.bin .add false (.l 1) (.c (.int .i64 1)), none, none, []⟩,
        ⟨.fieldAddr 1 (.v 3), none, none, []⟩,
        ⟨.store 1 (.l 3) (.l 2), none, none, []⟩]) (
      .skip))) (
     .reg [⟨.fieldAddr 0 (.v 3), none, none, []⟩,
       ⟨.load false 1 (.l 0), none, none, []⟩,
       ⟨.mv (.v 5), none, none, []⟩,
       ⟨.mkarr 2 1 [(.int .i64 0)] [(0, (.l 2))], none, none, []⟩,
       ⟨.append 3 1 8 1 (.l 1) (.l 3), none, none, []⟩,
       ⟨.fieldAddr 0 (.v 3), none, none, []⟩,
       ⟨.store 1 (.l 5) (.l 4), none, none, []⟩]))))) (
    .reg [⟨.mv (.v 4), none, none, []⟩,
      ⟨.bin .add false (.l 0) (.c (.int .i64 1)), none, none, []⟩,
      ⟨.mv (.l 1), some 4, none, []⟩])))))) (
  .seq (
  .reg [⟨.load true 2 (.v 3), none, none, []⟩,
    ⟨.store 2 (.v 2) (.l 0), none, none, []⟩]) (
  .ret))))⟩

def X14 : XFn :=
 ⟨38, [0, 1, 2, 3, 4, 5, 19, 24, 37], 2, [(4, none)],
  .seq (
  .reg [⟨.box 0 (.v 0), some 2, none, []⟩,
    ⟨.box 1 (.v 1), some 3, none, []⟩,
    ⟨.mv (.c (.bool false)), some 4, none, []⟩]) (
  .seq (
  .seq (
  .reg [⟨.fieldAddr 0 (.v 2), none, none, []⟩,
    ⟨.load false 1 (.l 0), none, none, []⟩,
    ⟨.len false (.l 1), none, none, []⟩,
    ⟨.fieldAddr 0 (.v 3), none, none, []⟩,
    ⟨.load false 1 (.l 3), none, none, []⟩,
    ⟨.len false (.l 4), none, none, []⟩,
    ⟨.bin .neq false (.l 2) (.l 5), none, none, []⟩,
    ⟨.mv (.l 6), none, none, []⟩,
    ⟨.fieldAddr 1 (.v 2), none, some ((.l 7), false), []⟩,
    ⟨.load false 1 (.l 8), none, some ((.l 7), false), []⟩,
    ⟨.fieldAddr 1 (.v 3), none, some ((.l 7), false), []⟩,
    ⟨.load false 1 (.l 10), none, some ((.l 7), false), []⟩,
    ⟨.bin .neq false (.l 9) (.l 11), none, some ((.l 7), false), []⟩,
    ⟨.pick (.l 7) (.c (.bool true)) (.l 12), some 6, none, []⟩]) (
  .cond (.v 6) (
   .seq (
   .reg [⟨.mv (.c (.bool false)), some 4, none, []⟩]) (
   .ret)) (
   .skip))) (
  .seq (
  .seq (
  .reg [⟨.mv (.c (.int .i64 0)), some 5, none, []⟩]) (
  .block 0 (
   .loopS [2, 3, 5] 2 (
    .seq (
    .seq (
    .reg [⟨.mv (.v 5), none, none, []⟩,
      ⟨.fieldAddr 0 (.v 2), none, none, []⟩,
      ⟨.load false 1 (.l 1), none, none, []⟩,
      ⟨.len false (.l 2), none, none, []⟩,
      ⟨.bin .lss false (.l 0) (.l 3), some 7, none, []⟩]) (
    .cond (.v 7) (
     .skip) (
     .exit 0))) (
    .seq (
    .block 1 (
     .seq (
     .reg [⟨.fieldAddr 0 (.v 2), none, none, []⟩,
       ⟨.load false 1 (.l 0), none, none, []⟩,
       ⟨.mv (.v 5), none, none, []⟩,
       ⟨.indexAddr 1 (.l 1) (.l 2), none, none, []⟩,
       ⟨.load false 1 (.l 3), none, none, []⟩,
       ⟨.fieldAddr 0 (.v 3), none, none, []⟩,
       ⟨.load false 1 (.l 5), none, none, []⟩,
       ⟨.mv (.v 5), none, none, []⟩,
       ⟨.indexAddr 1 (.l 6) (.l 7), none, none, []⟩,
       ⟨.load false 1 (.l 8), none, none, []⟩,
       ⟨.bin .neq false (.l 4) (.l 9), some 8, none, []⟩]) (
     .cond (.v 8) (
      .seq (
      .reg [⟨.mv (.c (.bool false)), some 4, none, []⟩]) (
      .ret)) (
      .skip)))) (
    .reg [⟨.mv (.v 5), none, none, []⟩,
      ⟨.bin .add false (.l 0) (.c (.int .i64 1)), none, none, []⟩,
      ⟨.mv (.l 1), some 5, none, []⟩])))))) (
  .seq (
  .reg [⟨.mv (.c (.bool true)), some 4, none, []⟩]) (
  .ret))))⟩

def X15 : XFn :=
 ⟨27, [0, 1, 4, 5, 10, 14, 26], 0, [(2, none)],
  .seq (
  .reg [⟨.mv (.c (.bool false)), some 2, none, []⟩]) (
  .seq (
  .seq (
  .reg [⟨.mv (.v 0), none, none, []⟩,
    ⟨.len false (.l 0), none, none, []⟩,
    ⟨.mv (.v 1), none, none, []⟩,
    ⟨.len false (.l 2), none, none, []⟩,
    ⟨.bin .neq false (.l 1) (.l 3), some 4, none, []⟩]) (
  .cond (.v 4) (
   .seq (
   .reg [⟨.mv (.c (.bool false)), some 2, none, []⟩]) (
   .ret)) (
   .skip))) (
  .seq (
  .seq (
  .reg [⟨.mv (.c (.int .i64 0)), some 3, none, []⟩]) (
  .block 0 (
   .loopS [0, 1, 3] 0 (
    .seq (
    .seq (
    .reg [⟨.mv (.v 3), none, none, []⟩,
      ⟨.mv (.v 0), none, none, []⟩,
      ⟨.len false (.l 1), none, none, []⟩,
      ⟨.bin .lss false (.l 0) (.l 2), some 5, none, []⟩]) (
    .cond (.v 5) (
     .skip) (
     .exit 0))) (
    .seq (
    .block 1 (
     .seq (
     .reg [⟨.mv (.v 0), none, none, []⟩,
       ⟨.mv (.v 3), none, none, []⟩,
       ⟨.indexAddr 4 (.l 0) (.l 1), none, none, []⟩,
       ⟨.load true 4 (.l 2), none, none, []⟩,
       ⟨.mv (.v 1), none, none, []⟩,
       ⟨.mv (.v 3), none, none, []⟩,
       ⟨.indexAddr 4 (.l 4) (.l 5), none, none, []⟩,
       ⟨.load true 4 (.l 6), none, none, []⟩,
       ⟨.call 28 [(.l 3), (.l 7)] [(0, 0)] false, none, none, []⟩,
       ⟨.un .not (.l 8), some 6, none, []⟩]) (
     .cond (.v 6) (
      .seq (
      .reg [⟨.mv (.c (.bool false)), some 2, none, []⟩]) (
      .ret)) (
      .skip)))) (
    .reg [⟨.mv (.v 3), none, none, []⟩,
      ⟨.bin .add false (.l 0) (.c (.int .i64 1)), none, none, []⟩,
      ⟨.mv (.l 1), some 3, none, []⟩])))))) (
  .seq (
  .reg [⟨.mv (.c (.bool true)), some 2, none, []⟩]) (
  .ret))))⟩

def X16 : XFn :=
 ⟨51, [0, 1, 3, 4, 5, 7, 8, 9, 10, 15, 16, 17, 18, 28, 33, 34, 35, 36, 44], 5, [(3, none)],
  .seq (
  .reg [⟨.box 0 (.v 1), some 2, none, []⟩,
    ⟨.mv (.c .nils), some 3, none, []⟩]) (
  .seq (
  .reg [⟨.mv (.v 0), none, none, []⟩,
    ⟨.len false (.l 0), none, none, []⟩,
    ⟨.makeSlice 1 1 1 (.bool false) (.l 1) (.l 1), none, none, []⟩,
    ⟨.mv (.l 2), some 4, none, []⟩]) (
  .seq (
  .seq (
  .reg [⟨.fieldAddr 0 (.v 2), none, none, []⟩,
    ⟨.load false 1 (.l 0), some 9, none, []⟩,
    ⟨.len false (.l 1), some 10, none, []⟩,
    ⟨.mv (.c (.int .i64 0)), some 11, none, []⟩]) (
  .block 0 (
   .loopS [0, 4, 9, 10, 11] 5 (
    .seq (
    .reg [⟨.bin .lss false (.v 11) (.v 10), some 12, none, []⟩]) (
    .seq (
    .cond (.v 12) (
     .skip) (
     .exit 0)) (
    .seq (
    .block 1 (
     .seq (
     .reg [⟨.indexAddr 1 (.v 9) (.v 11), none, none, []⟩,
       ⟨.load false 1 (.l 0), none, none, []⟩,
       ⟨.mv (.l 1), some 5, none, []⟩]) (
     .seq (
     .reg [⟨.mv (.v 5), none, none, []⟩,
       ⟨.bin .geq false (.l 0) (.c (.int .i64 0)), none, none, []⟩,
       ⟨.mv (.l 1), none, none, []⟩,
       ⟨.mv (.v 5), none, some ((.l 2), true), []⟩,
       ⟨.mv (.v 0), none, some ((.l 2), true), []⟩,
       ⟨.len false (.l 4), none, some ((.l 2), true), []⟩,
       ⟨.bin .lss false (.l 3) (.l 5), none, some ((.l 2), true), []⟩,
       ⟨.pick (.l 2) (.l 6) (.c (.bool false)), some 13, none, []⟩]) (
     .cond (.v 13) (
      .reg [⟨.mv (.v 4), none, none, []⟩,
        ⟨.mv (.v 5), none, none, []⟩,
        ⟨.indexAddr 1 (.l 0) (.l 1), none, none, []⟩,
        ⟨.store 1 (.l 2) (.c (.bool true)), none, none, []⟩]) (
      .skip))))) (
    .reg [⟨.bin .add false (.v 11) (.c (.int .i64 1)), none, none, []⟩,
      ⟨.mv (.l 0), some 11, none, []⟩]))))))) (
  .seq (
  .reg [⟨.mv (.c .nils), some 6, none, []⟩]) (
  .seq (
  .seq (
  .reg [⟨.mv (.v 0), some 14, none, []⟩,
    ⟨.len false (.l 0), some 15, none, []⟩,
    ⟨.mv (.c (.int .i64 0)), some 16, none, []⟩]) (
  .block 2 (
   .loopS [4, 6, 14, 15, 16] 5 (
    .seq (
    .reg [⟨.bin .lss false (.v 16) (.v 15), some 17, none, []⟩]) (
    .seq (
    .cond (.v 17) (
     .skip) (
     .exit 2)) (
    .seq (
    .block 3 (
     .seq (
     .reg [⟨.mv (.v 16), none, none, []⟩,
       ⟨.indexAddr 4 (.v 14) (.v 16), none, none, []⟩,
       ⟨.load true 4 (.l 1), none, none, []⟩,
       ⟨.alloc 2 [(.int .i64 0), (.int .i64 0), .nils, .nils], some 8, none, []⟩,
       ⟨.mv (.l 0), some 7, none, []⟩,
       ⟨.store 4 (.l 3) (.l 2), none, none, []⟩]) (
     .seq (
     .reg [⟨.mv (.v 4), none, none, []⟩,
       ⟨.mv (.v 7), none, none, []⟩,
       ⟨.indexAddr 1 (.l 0) (.l 1), none, none, []⟩,
       ⟨.load false 1 (.l 2), none, none, []⟩,
       ⟨.un .not (.l 3), some 18, none, []⟩]) (
     .cond (.v 18) (
      .reg [⟨.mv (.v 6), none, none, []⟩,
        ⟨.load true 4 (.v 8), none, none, []⟩,
        ⟨.mkarr 3 4 [(.agg [(.int .i64 0), (.int .i64 0), .nils, .nils])] [(0, (.l 1))], none, none, []⟩,
        ⟨.append 4 4 64 1 (.l 0) (.l 2), none, none, []⟩,
        ⟨.mv (.l 3), some 6, none, []⟩]) (
      .skip))))) (
    .reg [⟨.bin .add false (.v 16) (.c (.int .i64 1)), none, none, []⟩,
      ⟨.mv (.l 0), some 16, none, []⟩]))))))) (
  .seq (
  .reg [⟨.mv (.v 6), none, none, []⟩,
    ⟨.mv (.l 0), some 3, none, []⟩]) (
  .ret))))))⟩

def X17 : XFn :=
 ⟨27, [0, 1, 3, 4, 5, 6, 11, 18], 4, [(3, none)],
  .seq (
  .reg [⟨.box 0 (.v 1), some 2, none, []⟩,
    ⟨.mv (.c .nils), some 3, none, []⟩]) (
  .seq (
  .reg [⟨.mkarr 1 4 [] [], none, none, []⟩,
    ⟨.mv (.l 0), some 4, none, []⟩]) (
  .seq (
  .seq (
  .reg [⟨.mv (.c (.int .i64 0)), some 5, none, []⟩]) (
  .block 0 (
   .loopS [0, 2, 4, 5] 4 (
    .seq (
    .seq (
    .reg [⟨.mv (.v 5), none, none, []⟩,
      ⟨.mv (.v 0), none, none, []⟩,
      ⟨.len false (.l 1), none, none, []⟩,
      ⟨.bin .lss false (.l 0) (.l 2), some 6, none, []⟩]) (
    .cond (.v 6) (
     .skip) (
     .exit 0))) (
    .seq (
    .block 1 (
     .seq (
     .reg [⟨.fieldAddr 0 (.v 2), none, none, []⟩,
       ⟨.load false 1 (.l 0), none, none, []⟩,
       ⟨.mv (.v 5), none, none, []⟩,
       ⟨.call 27 [(.l 1), (.l 2)] [(0, 0)] true, none, none, []⟩,
       ⟨.un .not (.l 3), some 7, none, []⟩]) (
     .cond (.v 7) (
      .reg [⟨.mv (.v 4), none, none, []⟩,
        ⟨.mv (.v 0), none, none, []⟩,
        ⟨.mv (.v 5), none, none, []⟩,
        ⟨.indexAddr 4 (.l 1) (.l 2), none, none, []⟩,
        ⟨.load true 4 (.l 3), none, none, []⟩,
        ⟨.mkarr 2 4 [(.agg [(.int .i64 0), (.int .i64 0), .nils, .nils])] [(0, (.l 4))], none, none, []⟩,
        ⟨.append 3 4 64 1 (.l 0) (.l 5), none, none, []⟩,
        ⟨.mv (.l 6), some 4, none, []⟩]) (
      .skip)))) (
    .reg [⟨.mv (.v 5), none, none, []⟩,
      ⟨.bin .add false (.l 0) (.c (.int .i64 1)), none, none, []⟩,
      ⟨.mv (.l 1), some 5, none, []⟩])))))) (
  .seq (
  .reg [⟨.mv (.v 4), none, none, []⟩,
    ⟨.mv (.l 0), some 3, none, []⟩]) (
  .ret))))⟩

def X18 : XFn :=
 ⟨63, [0, 1, 2, 5, 6, 7, 8, 9, 15, 19, 28, 58], 1, [(4, none)],
  .seq (
  .reg [⟨.box 0 (.v 2), some 3, none, []⟩,
    ⟨.mv (.c (.bool false)), some 4, none, []⟩]) (
  .seq (
  .reg [⟨.mv (.c (.int .i64 0)), some 5, none, []⟩]) (
  .seq (
  .seq (
  .reg [⟨.fieldAddr 0 (.v 3), none, none, []⟩,
    ⟨.load false 1 (.l 0), none, none, []⟩,
    ⟨.len false (.l 1), none, none, []⟩,
    ⟨.mv (.v 1), none, none, []⟩,
    ⟨.len false (.l 3), none, none, []⟩,
    ⟨.bin .neq false (.l 2) (.l 4), some 8, none, []⟩]) (
  .cond (.v 8) (
   .seq (
   .reg [⟨.mv (.c (.bool false)), some 4, none, []⟩]) (
   .ret)) (
   .skip))) (
  .seq (
  .seq (
  .reg [⟨.mv (.c (.int .i64 0)), some 6, none, []⟩]) (
  .block 0 (
   .loopS [0, 1, 3, 5, 6] 1 (
    .seq (
    .seq (
    .reg [⟨.mv (.v 6), none, none, []⟩,
      ⟨.mv (.v 1), none, none, []⟩,
      ⟨.len false (.l 1), none, none, []⟩,
      ⟨.bin .lss false (.l 0) (.l 2), some 9, none, []⟩]) (
    .cond (.v 9) (
     .skip) (
     .exit 0))) (
    .seq (
    .block 1 (
     .seq (
     .reg [⟨.fieldAddr 0 (.v 3), none, none, []⟩,
       ⟨.load false 1 (.l 0), none, none, []⟩,
       ⟨.mv (.v 6), none, none, []⟩,
       ⟨.indexAddr 1 (.l 1) (.l 2), none, none, []⟩,
       ⟨.load false 1 (.l 3), none, none, []⟩,
       ⟨.mv (.l 4), some 7, none, []⟩]) (
     .seq (
     .seq (
     .reg [⟨.mv (.v 7), none, none, []⟩,
       ⟨.bin .eql false (.l 0) (.c (.int .i64 (-1))), some 10, none, []⟩]) (
     .cond (.v 10) (
      .seq (
      .reg [⟨.mv (.v 5), none, none, []⟩,
        ⟨.bin .add false (.l 0) (.c (.int .i64 1)), none, none, []⟩,
        ⟨.mv (.l 1), some 5, none, []⟩]) (
      .exit 1)) (
      .skip))) (
     .seq (
     .reg [⟨.mv (.v 7), none, none, []⟩,
       ⟨.bin .lss false (.l 0) (.c (.int .i64 0)), none, none, []⟩,
       ⟨.mv (.l 1), none, none, []⟩,
       ⟨.mv (.v 7), none, some ((.l 2), false), []⟩,
       ⟨.mv (.v 0), none, some ((.l 2), false), []⟩,
       ⟨.len false (.l 4), none, some ((.l 2), false), []⟩,
       ⟨.bin .geq false (.l 3) (.l 5), none, some ((.l 2), false), []⟩,
       ⟨.pick (.l 2) (.c (.bool true)) (.l 6), none, none, []⟩,
       ⟨.mv (.l 7), none, none, []⟩,
       ⟨.fieldAddr 0 (.v 3), none, some ((.l 8), false), []⟩,
       ⟨.load false 1 (.l 9), none, some ((.l 8), false), []⟩,
       ⟨.mv (.v 6), none, some ((.l 8), false), []⟩,
       ⟨.slice false 1 (.l 10) none (some (.l 11)) none, none, some ((.l 8), false), []⟩,
       ⟨.mv (.v 7), none, some ((.l 8), false), []⟩,
       ⟨.call 27 [(.l 12), (.l 13)] [(0, 0)] false, none, some ((.l 8), false), []⟩,
       ⟨.pick (.l 8) (.c (.bool true)) (.l 14), none, none, []⟩,
       ⟨.mv (.l 15), none, none, []⟩,
       ⟨.mv (.v 0), none, some ((.l 16), false), []⟩,
       ⟨.mv (.v 7), none, some ((.l 16), false), []⟩,
       ⟨.indexAddr 4 (.l 17) (.l 18), none, some ((.l 16), false), []⟩,
       ⟨.load true 4 (.l 19), none, some ((.l 16), false), []⟩,
       ⟨.mv (.v 1), none, some ((.l 16), false), []⟩,
       ⟨.mv (.v 6), none, some ((.l 16), false), []⟩,
       ⟨.indexAddr 4 (.l 21) (.l 22), none, some ((.l 16), false), []⟩,
       ⟨.load true 4 (.l 23), none, some ((.l 16), false), []⟩,
       ⟨.call 28 [(.l 20), (.l 24)] [(0, 0)] false, none, some ((.l 16), false), []⟩,
       ⟨.un .not (.l 25), none, some ((.l 16), false), []⟩,
       ⟨.pick (.l 16) (.c (.bool true)) (.l 26), some 11, none, []⟩]) (
     .cond (.v 11) (
      .seq (
      .reg [⟨.mv (.c (.bool false)), some 4, none, []⟩]) (
      .ret)) (
      .skip)))))) (
    .reg [⟨.mv (.v 6), none, none, []⟩,
      ⟨.bin .add false (.l 0) (.c (.int .i64 1)), none, none, []⟩,
      ⟨.mv (.l 1), some 6, none, []⟩])))))) (
  .seq (
  .reg [⟨.mv (.v 5), none, none, []⟩,
    ⟨.fieldAddr 1 (.v 3), none, none, []⟩,
    ⟨.load false 1 (.l 1), none, none, []⟩,
    ⟨.bin .eql false (.l 0) (.l 2), none, none, []⟩,
    ⟨.mv (.l 3), some 4, none, []⟩]) (
  .ret)))))⟩

def X19 : XFn :=
 ⟨31, [0, 1, 2, 3, 4, 5, 6, 7, 8, 9, 15], 6, [(6, none)],
  .seq (
  .reg [⟨.box 0 (.v 0), some 3, none, []⟩,
    ⟨.box 1 (.v 1), some 4, none, []⟩,
    ⟨.box 2 (.v 2), some 5, none, []⟩,
    ⟨.mv (.c (.bool false)), some 6, none, []⟩]) (
  .seq (
  .seq (
  .reg [⟨.fieldAddr 0 (.v 5), none, none, []⟩,
    ⟨.load false 1 (.l 0), none, none, []⟩,
    ⟨.len false (.l 1), none, none, []⟩,
    ⟨.load false 1 (.v 4), none, none, []⟩,
    ⟨.len false (.l 3), none, none, []⟩,
    ⟨.bin .neq false (.l 2) (.l 4), some 10, none, []⟩]) (
  .cond (.v 10) (
   .seq (
   .reg [⟨.mv (.c (.bool false)), some 6, none, []⟩]) (
   .ret)) (
   .skip))) (
  .seq (
  .reg [⟨.load false 1 (.v 3), none, none, []⟩,
    ⟨.len false (.l 0), none, none, []⟩,
    ⟨.makeSlice 3 1 1 (.bool false) (.l 1) (.l 1), none, none, []⟩,
    ⟨.alloc 4 [.nils], some 7, none, []⟩,
    ⟨.store 1 (.l 3) (.l 2), none, none, []⟩]) (
  .seq (
  .reg [⟨.alloc 5 [(.int .i64 0)], some 8, none, []⟩,
    ⟨.store 1 (.l 0) (.c (.int .i64 0)), none, none, []⟩]) (
  .seq (
  .reg [⟨.fieldAddr 0 (.v 5), none, none, []⟩,
    ⟨.load false 1 (.l 0), none, none, []⟩,
    ⟨.mkfn (.func 30) [] [(.v 8), (.v 3), (.v 7), (.v 4)], none, none, []⟩,
    ⟨.callv (.c (.fn (.func 29) [] [])) [(.l 1), (.l 2)], none, none, []⟩,
    ⟨.mv (.l 3), some 9, none, []⟩]) (
  .seq (
  .reg [⟨.mv (.v 9), none, none, []⟩,
    ⟨.bin .lss false (.l 0) (.c (.int .i64 0)), none, none, []⟩,
    ⟨.mv (.l 1), none, none, []⟩,
    ⟨.load false 1 (.v 8), none, some ((.l 2), true), []⟩,
    ⟨.fieldAddr 1 (.v 5), none, some ((.l 2), true), []⟩,
    ⟨.load false 1 (.l 4), none, some ((.l 2), true), []⟩,
    ⟨.bin .eql false (.l 3) (.l 5), none, some ((.l 2), true), []⟩,
    ⟨.pick (.l 2) (.l 6) (.c (.bool false)), none, none, []⟩,
    ⟨.mv (.l 7), some 6, none, []⟩]) (
  .ret))))))⟩

def X20 : XFn :=
 ⟨32, [0, 1, 4, 5, 6, 10, 28], 0, [(2, none)],
  .seq (
  .reg [⟨.mv (.c (.int .i64 0)), some 2, none, []⟩]) (
  .seq (
  .reg [⟨.mv (.c (.int .i64 0)), some 3, none, []⟩]) (
  .seq (
  .seq (
  .reg [⟨.mv (.c (.int .i64 0)), some 4, none, []⟩]) (
  .block 0 (
   .loopS [0, 1, 3, 4] 0 (
    .seq (
    .seq (
    .reg [⟨.mv (.v 4), none, none, []⟩,
      ⟨.mv (.v 1), none, none, []⟩,
      ⟨.len false (.l 1), none, none, []⟩,
      ⟨.bin .lss false (.l 0) (.l 2), some 5, none, []⟩]) (
    .cond (.v 5) (
     .skip) (
     .exit 0))) (
    .seq (
    .block 1 (
     .seq (
     .reg [⟨.mv (.v 1), none, none, []⟩,
       ⟨.mv (.v 4), none, none, []⟩,
       ⟨.bin .add false (.l 1) (.c (.int .i64 1)), none, none, []⟩,
       ⟨.slice false 4 (.l 0) none (some (.l 2)) none, none, none, []⟩,
       ⟨.mv (.v 1), none, none, []⟩,
       ⟨.mv (.v 4), none, none, []⟩,
       ⟨.indexAddr 4 (.l 4) (.l 5), none, none, []⟩,
       ⟨.load true 4 (.l 6), none, none, []⟩,
       ⟨.call 21 [(.l 3), (.l 7)] [(0, 0)] false, none, none, []⟩,
       ⟨.mv (.v 0), none, none, []⟩,
       ⟨.mv (.v 1), none, none, []⟩,
       ⟨.mv (.v 4), none, none, []⟩,
       ⟨.indexAddr 4 (.l 10) (.l 11), none, none, []⟩,
       ⟨.load true 4 (.l 12), none, none, []⟩,
       ⟨.call 21 [(.l 9), (.l 13)] [(0, 0)] false, none, none, []⟩,
       ⟨.bin .gtr false (.l 8) (.l 14), some 6, none, []⟩]) (
     .cond (.v 6) (
      .reg [⟨.mv (.v 3), none, none, []⟩,
        ⟨.bin .add false (.l 0) (.c (.int .i64 1)), none, none, []⟩,
        ⟨.mv (.l 1), some 3, none, []⟩]) (
      .skip)))) (
    .reg [⟨.mv (.v 4), none, none, []⟩,
      ⟨.bin .add false (.l 0) (.c (.int .i64 1)), none, none, []⟩,
      ⟨.mv (.l 1), some 4, none, []⟩])))))) (
  .seq (
  .reg [⟨.mv (.v 3), none, none, []⟩,
    ⟨.mv (.l 0), some 2, none, []⟩]) (
  .ret))))⟩

def X21 : XFn :=
 ⟨22, [0, 1, 3, 4, 5, 6, 10, 18], 1, [(3, none)],
  .seq (
  .reg [⟨.box 0 (.v 1), some 2, none, []⟩,
    ⟨.mv (.c (.int .i64 0)), some 3, none, []⟩]) (
  .seq (
  .reg [⟨.mv (.c (.int .i64 0)), some 4, none, []⟩]) (
  .seq (
  .seq (
  .reg [⟨.mv (.c (.int .i64 0)), some 5, none, []⟩]) (
  .block 0 (
   .loopS [0, 2, 4, 5] 1 (
    .seq (
    .seq (
    .reg [⟨.mv (.v 5), none, none, []⟩,
      ⟨.mv (.v 0), none, none, []⟩,
      ⟨.len false (.l 1), none, none, []⟩,
      ⟨.bin .lss false (.l 0) (.l 2), some 6, none, []⟩]) (
    .cond (.v 6) (
     .skip) (
     .exit 0))) (
    .seq (
    .block 1 (
     .seq (
     .reg [⟨.mv (.v 0), none, none, []⟩,
       ⟨.mv (.v 5), none, none, []⟩,
       ⟨.indexAddr 4 (.l 0) (.l 1), none, none, []⟩,
       ⟨.load true 4 (.l 2), none, none, []⟩,
       ⟨.load true 4 (.v 2), none, none, []⟩,
       ⟨.call 28 [(.l 3), (.l 4)] [(0, 0)] false, some 7, none, []⟩]) (
     .cond (.v 7) (
      .reg [⟨.mv (.v 4), none, none, []⟩,
        ⟨.bin .add false (.l 0) (.c (.int .i64 1)), none, none, []⟩,
        ⟨.mv (.l 1), some 4, none, []⟩]) (
      .skip)))) (
    .reg [⟨.mv (.v 5), none, none, []⟩,
      ⟨.bin .add false (.l 0) (.c (.int .i64 1)), none, none, []⟩,
      ⟨.mv (.l 1), some 5, none, []⟩])))))) (
  .seq (
  .reg [⟨.mv (.v 4), none, none, []⟩,
    ⟨.mv (.l 0), some 3, none, []⟩]) (
  .ret))))⟩

def X22 : XFn :=
 ⟨28, [0, 1, 4, 5, 6, 11], 3, [(2, none)],
  .seq (
  .reg [⟨.mv (.c .nils), some 2, none, []⟩]) (
  .seq (
  .reg [⟨.mkarr 0 4 [] [], none, none, []⟩,
    ⟨.mv (.l 0), some 3, none, []⟩]) (
  .seq (
  .seq (
  .reg [⟨.mv (.c (.int .i64 0)), some 4, none, []⟩]) (
  .block 0 (
   .loopS [0, 1, 3, 4] 3 (
    .seq (
    .seq (
    .reg [⟨.mv (.v 4), none, none, []⟩,
      ⟨.mv (.v 0), none, none, []⟩,
      ⟨.len false (.l 1), none, none, []⟩,
      ⟨.bin .lss false (.l 0) (.l 2), some 5, none, []⟩]) (
    .cond (.v 5) (
     .skip) (
     .exit 0))) (
    .seq (
    .block 1 (
     .reg [⟨.mv (.v 3), none, none, []⟩,
       ⟨.mv (.v 0), none, none, []⟩,
       ⟨.mv (.v 4), none, none, []⟩,
       ⟨.mv (.v 1), none, none, []⟩,
       ⟨.conv .i64 (.l 3), none, none, []⟩,
       ⟨.bin .add false (.l 2) (.l 4), none, none, []⟩,
       ⟨.mv (.v 0), none, none, []⟩,
       ⟨.len false (.l 6), none, none, []⟩,
       ⟨.bin .rem false (.l 5) (.l 7), none, none, []⟩,
       ⟨.indexAddr 4 (.l 1) (.l 8), none, none, []⟩,
       ⟨.load true 4 (.l 9), none, none, []⟩,
       ⟨.mkarr 1 4 [(.agg [(.int .i64 0), (.int .i64 0), .nils, .nils])] [(0, (.l 10))], none, none, []⟩,
       ⟨.append 2 4 64 1 (.l 0) (.l 11), none, none, []⟩,
       ⟨.mv (.l 12), some 3, none, []⟩])) (
    .reg [⟨.mv (.v 4), none, none, []⟩,
      ⟨.bin .add false (.l 0) (.c (.int .i64 1)), none, none, []⟩,
      ⟨.mv (.l 1), some 4, none, []⟩])))))) (
  .seq (
  .reg [⟨.mv (.v 3), none, none, []⟩,
    ⟨.mv (.l 0), some 2, none, []⟩]) (
  .ret))))⟩

def X23 : XFn :=
 ⟨28, [0, 2, 3, 4, 5], 7, [(1, some (true, 4))],
  .seq (
  .reg [⟨.alloc 0 [(.int .i64 0), (.int .i64 0), .nils, .nils], some 1, none, []⟩]) (
  .seq (
  .reg [⟨.call 31 [(.c (.int .i64 48)), (.c (.int .i64 12))] [(0, 0), (0, 0), (1, 1)] true, none, none, []⟩,
    ⟨.call 31 [(.c (.int .i64 48)), (.c (.int .i64 12))] [(0, 0), (0, 0), (2, 1)] true, none, none, []⟩,
    ⟨.alloc 3 [(.int .i64 0), (.int .i64 0), .nils], some 2, none, []⟩,
    ⟨.alloc 4 [(.int .i64 0), (.int .i64 0), .nils], some 3, none, []⟩,
    ⟨.store 3 (.l 2) (.l 0), none, none, []⟩,
    ⟨.store 3 (.l 3) (.l 1), none, none, []⟩]) (
  .seq (
  .reg [⟨.mv (.v 0), none, none, []⟩,
    ⟨.conv .i64 (.l 0), none, none, []⟩,
    ⟨.bin .rem false (.l 1) (.c (.int .i64 6)), none, none, []⟩,
    ⟨.mv (.l 2), some 4, none, []⟩]) (
  .seq (
  .reg [⟨.load true 3 (.v 2), none, none, []⟩,
    ⟨.build [(.int .i64 0), (.int .i64 0)] [(0, 1, (.c (.int .i64 0))), (1, 1, (.c (.int .i64 0)))], none, none, []⟩,
    ⟨.mv (.v 4), none, none, []⟩,
    ⟨.bin .quo false (.l 2) (.c (.int .i64 2)), none, none, []⟩,
    ⟨.build [(.int .i64 0), (.int .i64 0)] [(0, 1, (.l 3)), (1, 1, (.c (.int .i64 1)))], none, none, []⟩,
    ⟨.lit 2 [(.agg [(.int .i64 0), (.int .i64 0)]), (.agg [(.int .i64 0), (.int .i64 0)])] [(0, (.l 1)), (1, (.l 4))], none, none, []⟩,
    ⟨.call 32 [(.l 0), (.l 5)] [(0, 0), (0, 0), (5, 1)] false, none, none, []⟩,
    ⟨.field false 2 1 (.l 6), none, none, [6]⟩,
    ⟨.load true 3 (.v 3), none, none, [5]⟩,
    ⟨.mv (.v 4), none, none, [5]⟩,
    ⟨.bin .rem false (.l 9) (.c (.int .i64 2)), none, none, [5]⟩,
    ⟨.bin .sub false (.c (.int .i64 47)) (.l 10), none, none, [5]⟩,
    ⟨.build [(.int .i64 0), (.int .i64 0)] [(0, 1, (.l 11)), (1, 1, (.c (.int .i64 0)))], none, none, [5]⟩,
    ⟨.lit 2 [(.agg [(.int .i64 0), (.int .i64 0)])] [(0, (.l 12))], none, none, [5]⟩,
    ⟨.call 32 [(.l 8), (.l 13)] [(0, 0), (0, 0), (6, 1)] false, none, none, []⟩,
    ⟨.field false 2 1 (.l 14), none, none, []⟩,
    ⟨.build [(.int .i64 0), (.int .i64 0), .nils, .nils] [(0, 1, (.c (.int .i64 48))), (1, 1, (.c (.int .i64 12))), (2, 1, (.l 7)), (3, 1, (.l 15))], none, none, []⟩,
    ⟨.store 4 (.v 1) (.l 16), none, none, []⟩]) (
  .ret))))⟩

def X26 : XFn :=
 ⟨31, [0, 1, 2, 3, 4], 2, [(4, none)],
  .seq (
  .reg [⟨.box 0 (.v 0), some 2, none, []⟩,
    ⟨.box 1 (.v 1), some 3, none, []⟩,
    ⟨.mv (.c (.bool false)), some 4, none, []⟩]) (
  .seq (
  .reg [⟨.fieldAddr 0 (.v 2), none, none, []⟩,
    ⟨.load false 1 (.l 0), none, none, []⟩,
    ⟨.fieldAddr 0 (.v 3), none, none, []⟩,
    ⟨.load false 1 (.l 2), none, none, []⟩,
    ⟨.bin .eql false (.l 1) (.l 3), none, none, []⟩,
    ⟨.mv (.l 4), none, none, []⟩,
    ⟨.fieldAddr 1 (.v 2), none, some ((.l 5), true), []⟩,
    ⟨.load false 1 (.l 6), none, some ((.l 5), true), []⟩,
    ⟨.fieldAddr 1 (.v 3), none, some ((.l 5), true), []⟩,
    ⟨.load false 1 (.l 8), none, some ((.l 5), true), []⟩,
    ⟨.bin .eql false (.l 7) (.l 9), none, some ((.l 5), true), []⟩,
    ⟨.pick (.l 5) (.l 10) (.c (.bool false)), none, none, []⟩,
    ⟨.mv (.l 11), none, none, []⟩,
    ⟨.fieldAddr 2 (.v 2), none, some ((.l 12), true), []⟩,
    ⟨.load false 1 (.l 13), none, some ((.l 12), true), []⟩,
    ⟨.fieldAddr 2 (.v 3), none, some ((.l 12), true), []⟩,
    ⟨.load false 1 (.l 15), none, some ((.l 12), true), []⟩,
    ⟨.call 33 [(.l 14), (.l 16)] [(0, 0)] true, none, some ((.l 12), true), []⟩,
    ⟨.pick (.l 12) (.l 17) (.c (.bool false)), none, none, []⟩,
    ⟨.mv (.l 18), none, none, []⟩,
    ⟨.fieldAddr 3 (.v 2), none, some ((.l 19), true), []⟩,
    ⟨.load false 1 (.l 20), none, some ((.l 19), true), []⟩,
    ⟨.fieldAddr 3 (.v 3), none, some ((.l 19), true), []⟩,
    ⟨.load false 1 (.l 22), none, some ((.l 19), true), []⟩,
    ⟨.call 33 [(.l 21), (.l 23)] [(0, 0)] true, none, some ((.l 19), true), []⟩,
    ⟨.pick (.l 19) (.l 24) (.c (.bool false)), none, none, []⟩,
    ⟨.mv (.l 25), some 4, none, []⟩]) (
  .ret))⟩

def X27 : XFn :=
 ⟨18, [0, 1, 4, 5, 9, 17], 0, [(2, none)],
  .seq (
  .reg [⟨.mv (.c (.bool false)), some 2, none, []⟩]) (
  .seq (
  .seq (
  .reg [⟨.mv (.c (.int .i64 0)), some 3, none, []⟩]) (
  .block 0 (
   .loopS [0, 1, 3] 0 (
    .seq (
    .seq (
    .reg [⟨.mv (.v 3), none, none, []⟩,
      ⟨.mv (.v 0), none, none, []⟩,
      ⟨.len false (.l 1), none, none, []⟩,
      ⟨.bin .lss false (.l 0) (.l 2), some 4, none, []⟩]) (
    .cond (.v 4) (
     .skip) (
     .exit 0))) (
    .seq (
    .block 1 (
     .seq (
     .reg [⟨.mv (.v 0), none, none, []⟩,
       ⟨.mv (.v 3), none, none, []⟩,
       ⟨.indexAddr 1 (.l 0) (.l 1), none, none, []⟩,
       ⟨.load false 1 (.l 2), none, none, []⟩,
       ⟨.mv (.v 1), none, none, []⟩,
       ⟨.bin .eql false (.l 3) (.l 4), some 5, none, []⟩]) (
     .cond (.v 5) (
      .seq (
      .reg [⟨.mv (.c (.bool true)), some 2, none, []⟩]) (
      .ret)) (
      .skip)))) (
    .reg [⟨.mv (.v 3), none, none, []⟩,
      ⟨.bin .add false (.l 0) (.c (.int .i64 1)), none, none, []⟩,
      ⟨.mv (.l 1), some 3, none, []⟩])))))) (
  .seq (
  .reg [⟨.mv (.c (.bool false)), some 2, none, []⟩]) (
  .ret)))⟩

def X28 : XFn :=
 ⟨41, [0, 1, 2, 3, 4, 5, 6], 2, [(4, none)],
  .seq (
  .reg [⟨.box 0 (.v 0), some 2, none, []⟩,
    ⟨.box 1 (.v 1), some 3, none, []⟩,
    ⟨.mv (.c (.bool false)), some 4, none, []⟩]) (
  .seq (
  .reg [⟨.fieldAddr 0 (.v 2), none, none, []⟩,
    ⟨.load false 1 (.l 0), none, none, []⟩,
    ⟨.fieldAddr 1 (.v 2), none, none, []⟩,
    ⟨.load false 1 (.l 2), none, none, []⟩,
    ⟨.fieldAddr 2 (.v 2), none, none, []⟩,
    ⟨.load false 1 (.l 4), none, none, []⟩,
    ⟨.build [(.int .i64 0), (.int .i64 0), .nils] [(0, 1, (.l 1)), (1, 1, (.l 3)), (2, 1, (.l 5))], none, none, []⟩,
    ⟨.fieldAddr 0 (.v 3), none, none, []⟩,
    ⟨.load false 1 (.l 7), none, none, []⟩,
    ⟨.fieldAddr 1 (.v 3), none, none, []⟩,
    ⟨.load false 1 (.l 9), none, none, []⟩,
    ⟨.fieldAddr 2 (.v 3), none, none, []⟩,
    ⟨.load false 1 (.l 11), none, none, []⟩,
    ⟨.build [(.int .i64 0), (.int .i64 0), .nils] [(0, 1, (.l 8)), (1, 1, (.l 10)), (2, 1, (.l 12))], none, none, []⟩,
    ⟨.call 34 [(.l 6), (.l 13)] [(0, 0)] true, none, none, []⟩,
    ⟨.mv (.l 14), some 5, none, []⟩]) (
  .seq (
  .reg [⟨.fieldAddr 0 (.v 2), none, none, []⟩,
    ⟨.load false 1 (.l 0), none, none, []⟩,
    ⟨.fieldAddr 1 (.v 2), none, none, []⟩,
    ⟨.load false 1 (.l 2), none, none, []⟩,
    ⟨.fieldAddr 3 (.v 2), none, none, []⟩,
    ⟨.load false 1 (.l 4), none, none, []⟩,
    ⟨.build [(.int .i64 0), (.int .i64 0), .nils] [(0, 1, (.l 1)), (1, 1, (.l 3)), (2, 1, (.l 5))], none, none, []⟩,
    ⟨.fieldAddr 0 (.v 3), none, none, []⟩,
    ⟨.load false 1 (.l 7), none, none, []⟩,
    ⟨.fieldAddr 1 (.v 3), none, none, []⟩,
    ⟨.load false 1 (.l 9), none, none, []⟩,
    ⟨.fieldAddr 3 (.v 3), none, none, []⟩,
    ⟨.load false 1 (.l 11), none, none, []⟩,
    ⟨.build [(.int .i64 0), (.int .i64 0), .nils] [(0, 1, (.l 8)), (1, 1, (.l 10)), (2, 1, (.l 12))], none, none, []⟩,
    ⟨.call 34 [(.l 6), (.l 13)] [(0, 0)] true, none, none, []⟩,
    ⟨.mv (.l 14), some 6, none, []⟩]) (
  .seq (
  .reg [⟨.mv (.v 5), none, none, []⟩,
    ⟨.mv (.l 0), none, none, []⟩,
    ⟨.mv (.v 6), none, some ((.l 1), true), []⟩,
    ⟨.pick (.l 1) (.l 2) (.c (.bool false)), none, none, []⟩,
    ⟨.mv (.l 3), some 4, none, []⟩]) (
  .ret))))⟩

def X31 : XFn :=
 ⟨29, [0, 1, 4, 5, 6, 17], 5, [(2, some (true, 3))],
  .seq (
  .reg [⟨.alloc 0 [(.int .i64 0), (.int .i64 0), .nils], some 2, none, []⟩]) (
  .seq (
  .reg [⟨.mv (.v 0), none, none, []⟩,
    ⟨.minmax true [(.l 0), (.c (.int .i64 0))], none, none, []⟩,
    ⟨.minmax false [(.l 1), (.c (.int .i64 200))], none, none, []⟩,
    ⟨.mv (.v 1), none, none, []⟩,
    ⟨.minmax true [(.l 3), (.c (.int .i64 0))], none, none, []⟩,
    ⟨.minmax false [(.l 4), (.c (.int .i64 200))], none, none, []⟩,
    ⟨.build [(.int .i64 0), (.int .i64 0), .nils] [(0, 1, (.l 2)), (1, 1, (.l 5))], none, none, []⟩,
    ⟨.alloc 1 [(.int .i64 0), (.int .i64 0), .nils], some 3, none, []⟩,
    ⟨.store 3 (.l 7) (.l 6), none, none, []⟩]) (
  .seq (
  .seq (
  .reg [⟨.mv (.c (.int .i64 0)), some 4, none, []⟩]) (
  .block 0 (
   .loopS [2, 3, 4] 5 (
    .seq (
    .seq (
    .reg [⟨.mv (.v 4), none, none, []⟩,
      ⟨.fieldAddr 1 (.v 3), none, none, []⟩,
      ⟨.load false 1 (.l 1), none, none, []⟩,
      ⟨.bin .lss false (.l 0) (.l 2), some 5, none, []⟩]) (
    .cond (.v 5) (
     .skip) (
     .exit 0))) (
    .seq (
    .block 1 (
     .reg [⟨.fieldAddr 2 (.v 3), none, none, [2, 3]⟩,
       ⟨.load false 1 (.l 0), none, none, [2, 3]⟩,
       ⟨.fieldAddr 0 (.v 3), none, none, []⟩,
       ⟨.load false 1 (.l 2), none, none, []⟩,
       ⟨.makeSlice 2 1 1 (.bool false) (.l 3) (.l 3), none, none, []⟩,
       ⟨.mkarr 3 1 [.nils] [(0, (.l 4))], none, none, []⟩,
       ⟨.append 4 1 24 1 (.l 1) (.l 5), none, none, []⟩,
       ⟨.fieldAddr 2 (.v 3), none, none, []⟩,
       ⟨.store 1 (.l 7) (.l 6), none, none, []⟩])) (
    .reg [⟨.mv (.v 4), none, none, []⟩,
      ⟨.bin .add false (.l 0) (.c (.int .i64 1)), none, none, []⟩,
      ⟨.mv (.l 1), some 4, none, []⟩])))))) (
  .seq (
  .reg [⟨.load true 3 (.v 3), none, none, []⟩,
    ⟨.store 3 (.v 2) (.l 0), none, none, []⟩]) (
  .ret))))⟩

def X32 : XFn :=
 ⟨69, [0, 1, 2, 4, 5, 6, 7, 8, 17, 23, 44, 52], 4, [(3, some (true, 3))],
  .seq (
  .reg [⟨.box 0 (.v 0), some 2, none, []⟩,
    ⟨.alloc 1 [(.int .i64 0), (.int .i64 0), .nils], some 3, none, []⟩]) (
  .seq (
  .reg [⟨.fieldAddr 0 (.v 2), none, none, []⟩,
    ⟨.load false 1 (.l 0), none, none, []⟩,
    ⟨.fieldAddr 1 (.v 2), none, none, []⟩,
    ⟨.load false 1 (.l 2), none, none, []⟩,
    ⟨.call 31 [(.l 1), (.l 3)] [(0, 0), (0, 0), (2, 1)] true, none, none, []⟩,
    ⟨.alloc 3 [(.int .i64 0), (.int .i64 0), .nils], some 4, none, []⟩,
    ⟨.store 3 (.l 5) (.l 4), none, none, []⟩]) (
  .seq (
  .seq (
  .reg [⟨.mv (.c (.int .i64 0)), some 5, none, []⟩]) (
  .block 0 (
   .loopS [1, 2, 3, 4, 5] 4 (
    .seq (
    .seq (
    .reg [⟨.mv (.v 5), none, none, []⟩,
      ⟨.fieldAddr 1 (.v 2), none, none, []⟩,
      ⟨.load false 1 (.l 1), none, none, []⟩,
      ⟨.bin .lss false (.l 0) (.l 2), some 8, none, []⟩]) (
    .cond (.v 8) (
     .skip) (
     .exit 0))) (
    .seq (
    .block 1 (
     .seq (
     .reg [⟨.mv (.c (.int .i64 0)), some 6, none, []⟩]) (
     .block 2 (
      .loopS [1, 2, 3, 4, 5, 6] 4 (
       .seq (
       .seq (
       .reg [⟨.mv (.v 6), none, none, []⟩,
         ⟨.fieldAddr 0 (.v 2), none, none, []⟩,
         ⟨.load false 1 (.l 1), none, none, []⟩,
         ⟨.bin .lss false (.l 0) (.l 2), some 9, none, []⟩]) (
       .cond (.v 9) (
        .skip) (
        .exit 2))) (
       .seq (
       .block 3 (
        .reg [⟨.fieldAddr 2 (.v 4), none, none, []⟩,
          ⟨.load false 1 (.l 0), none, none, []⟩,
          ⟨.mv (.v 5), none, none, []⟩,
          ⟨.indexAddr 1 (.l 1) (.l 2), none, none, []⟩,
          ⟨.load false 1 (.l 3), none, none, []⟩,
          ⟨.mv (.v 6), none, none, []⟩,
          ⟨.fieldAddr 2 (.v 2), none, none, []⟩,
          ⟨.load false 1 (.l 6), none, none, []⟩,
          ⟨.mv (.v 5), none, none, []⟩,
          ⟨.indexAddr 1 (.l 7) (.l 8), none, none, []⟩,
          ⟨.load false 1 (.l 9), none, none, []⟩,
          ⟨.mv (.v 6), none, none, []⟩,
          ⟨.indexAddr 1 (.l 10) (.l 11), none, none, []⟩,
          ⟨.load false 1 (.l 12), none, none, []⟩,
          ⟨.indexAddr 1 (.l 4) (.l 5), none, none, []⟩,
          ⟨.store 1 (.l 14) (.l 13), none, none, []⟩])) (
       .reg [⟨.mv (.v 6), none, none, []⟩,
         ⟨.bin .add false (.l 0) (.c (.int .i64 1)), none, none, []⟩,
         ⟨.mv (.l 1), some 6, none, []⟩]))))))) (
    .reg [⟨.mv (.v 5), none, none, []⟩,
      ⟨.bin .add false (.l 0) (.c (.int .i64 1)), none, none, []⟩,
      ⟨.mv (.l 1), some 5, none, []⟩])))))) (
  .seq (
  .seq (
  .reg [⟨.mv (.c (.int .i64 0)), some 7, none, []⟩]) (
  .block 4 (
   .loopS [1, 2, 3, 4, 7] 4 (
    .seq (
    .seq (
    .reg [⟨.mv (.v 7), none, none, []⟩,
      ⟨.mv (.v 1), none, none, []⟩,
      ⟨.len false (.l 1), none, none, []⟩,
      ⟨.bin .lss false (.l 0) (.l 2), some 10, none, []⟩]) (
    .cond (.v 10) (
     .skip) (
     .exit 4))) (
    .seq (
    .block 5 (
     .seq (
     .reg [⟨.load true 3 (.v 2), none, none, []⟩,
       ⟨.mv (.v 1), none, none, []⟩,
       ⟨.mv (.v 7), none, none, []⟩,
       ⟨.indexAddr 2 (.l 1) (.l 2), none, none, []⟩,
       ⟨.load true 2 (.l 3), none, none, []⟩,
       ⟨.call 35 [(.l 0), (.l 4)] [(0, 0)] false, some 11, none, []⟩]) (
     .cond (.v 11) (
      .reg [⟨.fieldAddr 2 (.v 4), none, none, []⟩,
        ⟨.load false 1 (.l 0), none, none, []⟩,
        ⟨.mv (.v 1), none, none, []⟩,
        ⟨.mv (.v 7), none, none, []⟩,
        ⟨.indexAddr 2 (.l 2) (.l 3), none, none, []⟩,
        ⟨.fieldAddr 1 (.l 4), none, none, []⟩,
        ⟨.load false 1 (.l 5), none, none, []⟩,
        ⟨.indexAddr 1 (.l 1) (.l 6), none, none, []⟩,
        ⟨.load false 1 (.l 7), none, none, []⟩,
        ⟨.mv (.v 1), none, none, []⟩,
        ⟨.mv (.v 7), none, none, []⟩,
        ⟨.indexAddr 2 (.l 9) (.l 10), none, none, []⟩,
        ⟨.fieldAddr 0 (.l 11), none, none, []⟩,
        ⟨.load false 1 (.l 12), none, none, []⟩,
        ⟨.indexAddr 1 (.l 8) (.l 13), none, none, []⟩,
        ⟨.store 1 (.l 14) (.c (.bool true)), none, none, []⟩]) (
      .skip)))) (
    .reg [⟨.mv (.v 7), none, none, []⟩,
      ⟨.bin .add false (.l 0) (.c (.int .i64 1)), none, none, []⟩,
      ⟨.mv (.l 1), some 7, none, []⟩])))))) (
  .seq (
  .reg [⟨.load true 3 (.v 4), none, none, []⟩,
    ⟨.store 3 (.v 3) (.l 0), none, none, []⟩]) (
  .ret)))))⟩

def X33 : XFn :=
 ⟨8, [0, 1, 4], 0, [(2, none)],
  .seq (
  .reg [⟨.mv (.c (.bool false)), some 2, none, []⟩]) (
  .seq (
  .reg [⟨.mv (.v 0), none, none, []⟩,
    ⟨.mv (.v 1), none, none, []⟩,
    ⟨.callv (.c (.fn (.func 36) [] [])) [(.l 0), (.l 1), (.c (.fn (.func 37) [] []))], none, none, []⟩,
    ⟨.mv (.l 2), some 2, none, []⟩]) (
  .ret))⟩

def X34 : XFn :=
 ⟨75, [0, 1, 2, 3, 4, 5, 6, 27, 32, 47, 55, 74], 2, [(4, none)],
  .seq (
  .reg [⟨.box 0 (.v 0), some 2, none, []⟩,
    ⟨.box 1 (.v 1), some 3, none, []⟩,
    ⟨.mv (.c (.bool false)), some 4, none, []⟩]) (
  .seq (
  .seq (
  .reg [⟨.fieldAddr 0 (.v 2), none, none, []⟩,
    ⟨.load false 1 (.l 0), none, none, []⟩,
    ⟨.fieldAddr 0 (.v 3), none, none, []⟩,
    ⟨.load false 1 (.l 2), none, none, []⟩,
    ⟨.bin .neq false (.l 1) (.l 3), none, none, []⟩,
    ⟨.mv (.l 4), none, none, []⟩,
    ⟨.fieldAddr 1 (.v 2), none, some ((.l 5), false), []⟩,
    ⟨.load false 1 (.l 6), none, some ((.l 5), false), []⟩,
    ⟨.fieldAddr 1 (.v 3), none, some ((.l 5), false), []⟩,
    ⟨.load false 1 (.l 8), none, some ((.l 5), false), []⟩,
    ⟨.bin .neq false (.l 7) (.l 9), none, some ((.l 5), false), []⟩,
    ⟨.pick (.l 5) (.c (.bool true)) (.l 10), none, none, []⟩,
    ⟨.mv (.l 11), none, none, []⟩,
    ⟨.fieldAddr 2 (.v 2), none, some ((.l 12), false), []⟩,
    ⟨.load false 1 (.l 13), none, some ((.l 12), false), []⟩,
    ⟨.len false (.l 14), none, some ((.l 12), false), []⟩,
    ⟨.fieldAddr 2 (.v 3), none, some ((.l 12), false), []⟩,
    ⟨.load false 1 (.l 16), none, some ((.l 12), false), []⟩,
    ⟨.len false (.l 17), none, some ((.l 12), false), []⟩,
    ⟨.bin .neq false (.l 15) (.l 18), none, some ((.l 12), false), []⟩,
    ⟨.pick (.l 12) (.c (.bool true)) (.l 19), some 7, none, []⟩]) (
  .cond (.v 7) (
   .seq (
   .reg [⟨.mv (.c (.bool false)), some 4, none, []⟩]) (
   .ret)) (
   .skip))) (
  .seq (
  .seq (
  .reg [⟨.mv (.c (.int .i64 0)), some 5, none, []⟩]) (
  .block 0 (
   .loopS [2, 3, 5] 2 (
    .seq (
    .seq (
    .reg [⟨.mv (.v 5), none, none, []⟩,
      ⟨.fieldAddr 2 (.v 2), none, none, []⟩,
      ⟨.load false 1 (.l 1), none, none, []⟩,
      ⟨.len false (.l 2), none, none, []⟩,
      ⟨.bin .lss false (.l 0) (.l 3), some 8, none, []⟩]) (
    .cond (.v 8) (
     .skip) (
     .exit 0))) (
    .seq (
    .block 1 (
     .seq (
     .seq (
     .reg [⟨.fieldAddr 2 (.v 2), none, none, []⟩,
       ⟨.load false 1 (.l 0), none, none, []⟩,
       ⟨.mv (.v 5), none, none, []⟩,
       ⟨.indexAddr 1 (.l 1) (.l 2), none, none, []⟩,
       ⟨.load false 1 (.l 3), none, none, []⟩,
       ⟨.len false (.l 4), none, none, []⟩,
       ⟨.fieldAddr 2 (.v 3), none, none, []⟩,
       ⟨.load false 1 (.l 6), none, none, []⟩,
       ⟨.mv (.v 5), none, none, []⟩,
       ⟨.indexAddr 1 (.l 7) (.l 8), none, none, []⟩,
       ⟨.load false 1 (.l 9), none, none, []⟩,
       ⟨.len false (.l 10), none, none, []⟩,
       ⟨.bin .neq false (.l 5) (.l 11), some 9, none, []⟩]) (
     .cond (.v 9) (
      .seq (
      .reg [⟨.mv (.c (.bool false)), some 4, none, []⟩]) (
      .ret)) (
      .skip))) (
     .seq (
     .reg [⟨.mv (.c (.int .i64 0)), some 6, none, []⟩]) (
     .block 2 (
      .loopS [2, 3, 5, 6] 2 (
       .seq (
       .seq (
       .reg [⟨.mv (.v 6), none, none, []⟩,
         ⟨.fieldAddr 2 (.v 2), none, none, []⟩,
         ⟨.load false 1 (.l 1), none, none, []⟩,
         ⟨.mv (.v 5), none, none, []⟩,
         ⟨.indexAddr 1 (.l 2) (.l 3), none, none, []⟩,
         ⟨.load false 1 (.l 4), none, none, []⟩,
         ⟨.len false (.l 5), none, none, []⟩,
         ⟨.bin .lss false (.l 0) (.l 6), some 10, none, []⟩]) (
       .cond (.v 10) (
        .skip) (
        .exit 2))) (
       .seq (
       .block 3 (
        .seq (
        .reg [⟨.fieldAddr 2 (.v 2), none, none, []⟩,
          ⟨.load false 1 (.l 0), none, none, []⟩,
          ⟨.mv (.v 5), none, none, []⟩,
          ⟨.indexAddr 1 (.l 1) (.l 2), none, none, []⟩,
          ⟨.load false 1 (.l 3), none, none, []⟩,
          ⟨.mv (.v 6), none, none, []⟩,
          ⟨.indexAddr 1 (.l 4) (.l 5), none, none, []⟩,
          ⟨.load false 1 (.l 6), none, none, []⟩,
          ⟨.fieldAddr 2 (.v 3), none, none, []⟩,
          ⟨.load false 1 (.l 8), none, none, []⟩,
          ⟨.mv (.v 5), none, none, []⟩,
          ⟨.indexAddr 1 (.l 9) (.l 10), none, none, []⟩,
          ⟨.load false 1 (.l 11), none, none, []⟩,
          ⟨.mv (.v 6), none, none, []⟩,
          ⟨.indexAddr 1 (.l 12) (.l 13), none, none, []⟩,
          ⟨.load false 1 (.l 14), none, none, []⟩,
          ⟨.bin .neq true (.l 7) (.l 15), some 11, none, []⟩]) (
        .cond (.v 11) (
         .seq (
         .reg [⟨.mv (.c (.bool false)), some 4, none, []⟩]) (
         .ret)) (
         .skip)))) (
       .reg [⟨.mv (.v 6), none, none, []⟩,
         ⟨.bin .add false (.l 0) (.c (.int .i64 1)), none, none, []⟩,
         ⟨.mv (.l 1), some 6, none, []⟩])))))))) (
    .reg [⟨.mv (.v 5), none, none, []⟩,
      ⟨.bin .add false (.l 0) (.c (.int .i64 1)), none, none, []⟩,
      ⟨.mv (.l 1), some 5, none, []⟩])))))) (
  .seq (
  .reg [⟨.mv (.c (.bool true)), some 4, none, []⟩]) (
  .ret))))⟩

def X35 : XFn :=
 ⟨27, [0, 1, 2, 3, 4], 2, [(4, none)],
  .seq (
  .reg [⟨.box 0 (.v 0), some 2, none, []⟩,
    ⟨.box 1 (.v 1), some 3, none, []⟩,
    ⟨.mv (.c (.bool false)), some 4, none, []⟩]) (
  .seq (
  .reg [⟨.fieldAddr 0 (.v 3), none, none, []⟩,
    ⟨.load false 1 (.l 0), none, none, []⟩,
    ⟨.bin .geq false (.l 1) (.c (.int .i64 0)), none, none, []⟩,
    ⟨.mv (.l 2), none, none, []⟩,
    ⟨.fieldAddr 0 (.v 3), none, some ((.l 3), true), []⟩,
    ⟨.load false 1 (.l 4), none, some ((.l 3), true), []⟩,
    ⟨.fieldAddr 0 (.v 2), none, some ((.l 3), true), []⟩,
    ⟨.load false 1 (.l 6), none, some ((.l 3), true), []⟩,
    ⟨.bin .lss false (.l 5) (.l 7), none, some ((.l 3), true), []⟩,
    ⟨.pick (.l 3) (.l 8) (.c (.bool false)), none, none, []⟩,
    ⟨.mv (.l 9), none, none, []⟩,
    ⟨.fieldAddr 1 (.v 3), none, some ((.l 10), true), []⟩,
    ⟨.load false 1 (.l 11), none, some ((.l 10), true), []⟩,
    ⟨.bin .geq false (.l 12) (.c (.int .i64 0)), none, some ((.l 10), true), []⟩,
    ⟨.pick (.l 10) (.l 13) (.c (.bool false)), none, none, []⟩,
    ⟨.mv (.l 14), none, none, []⟩,
    ⟨.fieldAddr 1 (.v 3), none, some ((.l 15), true), []⟩,
    ⟨.load false 1 (.l 16), none, some ((.l 15), true), []⟩,
    ⟨.fieldAddr 1 (.v 2), none, some ((.l 15), true), []⟩,
    ⟨.load false 1 (.l 18), none, some ((.l 15), true), []⟩,
    ⟨.bin .lss false (.l 17) (.l 19), none, some ((.l 15), true), []⟩,
    ⟨.pick (.l 15) (.l 20) (.c (.bool false)), none, none, []⟩,
    ⟨.mv (.l 21), some 4, none, []⟩]) (
  .ret))⟩

def X38 : XFn :=
 ⟨26, [0, 1, 4, 5, 10, 12, 13, 14, 24], 0, [(2, none)],
  .seq (
  .reg [⟨.mv (.c (.bool false)), some 2, none, []⟩]) (
  .seq (
  .seq (
  .reg [⟨.mv (.v 0), none, none, []⟩,
    ⟨.len false (.l 0), none, none, []⟩,
    ⟨.mv (.v 1), none, none, []⟩,
    ⟨.len false (.l 2), none, none, []⟩,
    ⟨.bin .neq false (.l 1) (.l 3), some 4, none, []⟩]) (
  .cond (.v 4) (
   .seq (
   .reg [⟨.mv (.c (.bool false)), some 2, none, []⟩]) (
   .ret)) (
   .skip))) (
  .seq (
  .seq (
  .reg [⟨.mv (.v 0), none, none, []⟩,
    ⟨.len false (.l 0), some 5, none, []⟩,
    ⟨.mv (.c (.int .i64 0)), some 6, none, []⟩]) (
  .block 0 (
   .loopS [0, 1, 5, 6] 0 (
    .seq (
    .reg [⟨.bin .lss false (.v 6) (.v 5), some 7, none, []⟩]) (
    .seq (
    .cond (.v 7) (
     .skip) (
     .exit 0)) (
    .seq (
    .block 1 (
     .seq (
     .reg [⟨.mv (.v 6), none, none, []⟩,
       ⟨.mv (.l 0), some 3, none, []⟩]) (
     .seq (
     .reg [⟨.mv (.v 0), none, none, []⟩,
       ⟨.mv (.v 3), none, none, []⟩,
       ⟨.indexAddr 1 (.l 0) (.l 1), none, none, []⟩,
       ⟨.load false 1 (.l 2), none, none, []⟩,
       ⟨.mv (.v 1), none, none, []⟩,
       ⟨.mv (.v 3), none, none, []⟩,
       ⟨.indexAddr 1 (.l 4) (.l 5), none, none, []⟩,
       ⟨.load false 1 (.l 6), none, none, []⟩,
       ⟨.bin .neq true (.l 3) (.l 7), some 8, none, []⟩]) (
     .cond (.v 8) (
      .seq (
      .reg [⟨.mv (.c (.bool false)), some 2, none, []⟩]) (
      .ret)) (
      .skip))))) (
    .reg [⟨.bin .add false (.v 6) (.c (.int .i64 1)), none, none, []⟩,
      ⟨.mv (.l 0), some 6, none, []⟩]))))))) (
  .seq (
  .reg [⟨.mv (.c (.bool true)), some 2, none, []⟩]) (
  .ret))))⟩

def X24 : XFn :=
 ⟨20, [0, 1, 4, 5, 6, 7, 8, 9, 10, 17], 12, [(2, none)],
  .seq (
  .reg [⟨.mv (.c (.int .i64 0)), some 2, none, []⟩]) (
  .seq (
  .seq (
  .reg [⟨.mv (.v 0), some 5, none, []⟩,
    ⟨.len false (.l 0), some 6, none, []⟩,
    ⟨.mv (.c (.int .i64 0)), some 7, none, []⟩]) (
  .block 0 (
   .loop (
    .seq (
    .reg [⟨.bin .lss false (.v 7) (.v 6), some 8, none, []⟩]) (
    .seq (
    .cond (.v 8) (
     .skip) (
     .exit 0)) (
    .seq (
    .block 1 (
     .seq (
     .reg [⟨.mv (.v 7), none, none, []⟩,
       ⟨.indexAddr 4 (.v 5) (.v 7), none, none, []⟩,
       ⟨.load true 4 (.l 1), none, none, []⟩,
       ⟨.alloc 11 [(.int .i64 0), (.int .i64 0), .nils, .nils], some 4, none, []⟩,
       ⟨.mv (.l 0), some 3, none, []⟩,
       ⟨.store 4 (.l 3) (.l 2), none, none, []⟩]) (
     .seq (
     .reg [⟨.mv (.v 1), none, none, []⟩,
       ⟨.mv (.v 3), none, none, []⟩,
       ⟨.load true 4 (.v 4), none, none, []⟩,
       ⟨.callv (.l 0) [(.l 1), (.l 2)], some 9, none, []⟩]) (
     .cond (.v 9) (
      .seq (
      .reg [⟨.mv (.v 3), none, none, []⟩,
        ⟨.mv (.l 0), some 2, none, []⟩]) (
      .ret)) (
      .skip))))) (
    .reg [⟨.bin .add false (.v 7) (.c (.int .i64 1)), none, none, []⟩,
      ⟨.mv (.l 0), some 7, none, []⟩]))))))) (
  .seq (
  .reg [⟨.mv (.c (.int .i64 (-1))), some 2, none, []⟩]) (
  .ret)))⟩

def X25 : XFn :=
 ⟨17, [0, 1, 2, 3, 5, 6], 13, [(5, none)],
  .seq (
  .reg [⟨.box 12 (.v 1), some 4, none, []⟩,
    ⟨.mv (.c (.bool false)), some 5, none, []⟩]) (
  .seq (
  .reg [⟨.load false 1 (.v 2), none, none, []⟩,
    ⟨.mv (.v 0), none, none, []⟩,
    ⟨.indexAddr 1 (.l 0) (.l 1), none, none, []⟩,
    ⟨.load false 1 (.l 2), none, none, []⟩,
    ⟨.un .not (.l 3), none, none, []⟩,
    ⟨.mv (.l 4), none, none, []⟩,
    ⟨.load true 4 (.v 4), none, some ((.l 5), true), []⟩,
    ⟨.load true 4 (.v 3), none, some ((.l 5), true), []⟩,
    ⟨.call 26 [(.l 6), (.l 7)] [(0, 0)] true, none, some ((.l 5), true), []⟩,
    ⟨.pick (.l 5) (.l 8) (.c (.bool false)), none, none, []⟩,
    ⟨.mv (.l 9), some 5, none, []⟩]) (
  .ret))⟩

def X29 : XFn :=
 ⟨20, [0, 1, 4, 5, 6, 7, 8, 9, 10, 17], 6, [(2, none)],
  .seq (
  .reg [⟨.mv (.c (.int .i64 0)), some 2, none, []⟩]) (
  .seq (
  .seq (
  .reg [⟨.mv (.v 0), some 5, none, []⟩,
    ⟨.len false (.l 0), some 6, none, []⟩,
    ⟨.mv (.c (.int .i64 0)), some 7, none, []⟩]) (
  .block 0 (
   .loop (
    .seq (
    .reg [⟨.bin .lss false (.v 7) (.v 6), some 8, none, []⟩]) (
    .seq (
    .cond (.v 8) (
     .skip) (
     .exit 0)) (
    .seq (
    .block 1 (
     .seq (
     .reg [⟨.mv (.v 7), none, none, []⟩,
       ⟨.indexAddr 1 (.v 5) (.v 7), none, none, []⟩,
       ⟨.load false 1 (.l 1), none, none, []⟩,
       ⟨.mv (.l 0), some 3, none, []⟩,
       ⟨.mv (.l 2), some 4, none, []⟩]) (
     .seq (
     .reg [⟨.mv (.v 1), none, none, []⟩,
       ⟨.mv (.v 3), none, none, []⟩,
       ⟨.mv (.v 4), none, none, []⟩,
       ⟨.callv (.l 0) [(.l 1), (.l 2)], some 9, none, []⟩]) (
     .cond (.v 9) (
      .seq (
      .reg [⟨.mv (.v 3), none, none, []⟩,
        ⟨.mv (.l 0), some 2, none, []⟩]) (
      .ret)) (
      .skip))))) (
    .reg [⟨.bin .add false (.v 7) (.c (.int .i64 1)), none, none, []⟩,
      ⟨.mv (.l 0), some 7, none, []⟩]))))))) (
  .seq (
  .reg [⟨.mv (.c (.int .i64 (-1))), some 2, none, []⟩]) (
  .ret)))⟩

def X30 : XFn :=
 ⟨42, [0, 1, 2, 3, 4, 5, 8, 10, 38], 6, [(6, none)],
  .seq (
  .reg [⟨.mv (.c (.bool false)), some 6, none, []⟩]) (
  .seq (
  .seq (
  .reg [⟨.mv (.v 1), none, none, []⟩,
    ⟨.bin .eql false (.l 0) (.c (.int .i64 (-1))), some 7, none, []⟩]) (
  .cond (.v 7) (
   .seq (
   .reg [⟨.load false 1 (.v 2), none, none, []⟩,
     ⟨.bin .add false (.l 0) (.c (.int .i64 1)), none, none, []⟩,
     ⟨.store 1 (.v 2) (.l 1), none, none, []⟩]) (
   .seq (
   .reg [⟨.mv (.c (.bool false)), some 6, none, []⟩]) (
   .ret))) (
   .skip))) (
  .seq (
  .seq (
  .reg [⟨.mv (.v 1), none, none, []⟩,
    ⟨.bin .lss false (.l 0) (.c (.int .i64 0)), none, none, []⟩,
    ⟨.mv (.l 1), none, none, []⟩,
    ⟨.mv (.v 1), none, some ((.l 2), false), []⟩,
    ⟨.load false 1 (.v 3), none, some ((.l 2), false), []⟩,
    ⟨.len false (.l 4), none, some ((.l 2), false), []⟩,
    ⟨.bin .geq false (.l 3) (.l 5), none, some ((.l 2), false), []⟩,
    ⟨.pick (.l 2) (.c (.bool true)) (.l 6), none, none, []⟩,
    ⟨.mv (.l 7), none, none, []⟩,
    ⟨.load false 1 (.v 4), none, some ((.l 8), false), []⟩,
    ⟨.mv (.v 1), none, some ((.l 8), false), []⟩,
    ⟨.indexAddr 1 (.l 9) (.l 10), none, some ((.l 8), false), []⟩,
    ⟨.load false 1 (.l 11), none, some ((.l 8), false), []⟩,
    ⟨.pick (.l 8) (.c (.bool true)) (.l 12), none, none, []⟩,
    ⟨.mv (.l 13), none, none, []⟩,
    ⟨.load false 1 (.v 3), none, some ((.l 14), false), []⟩,
    ⟨.mv (.v 1), none, some ((.l 14), false), []⟩,
    ⟨.indexAddr 4 (.l 15) (.l 16), none, some ((.l 14), false), []⟩,
    ⟨.load true 4 (.l 17), none, some ((.l 14), false), []⟩,
    ⟨.load false 1 (.v 5), none, some ((.l 14), false), []⟩,
    ⟨.mv (.v 0), none, some ((.l 14), false), []⟩,
    ⟨.indexAddr 4 (.l 19) (.l 20), none, some ((.l 14), false), []⟩,
    ⟨.load true 4 (.l 21), none, some ((.l 14), false), []⟩,
    ⟨.call 26 [(.l 18), (.l 22)] [(0, 0)] false, none, some ((.l 14), false), []⟩,
    ⟨.un .not (.l 23), none, some ((.l 14), false), []⟩,
    ⟨.pick (.l 14) (.c (.bool true)) (.l 24), some 8, none, []⟩]) (
  .cond (.v 8) (
   .seq (
   .reg [⟨.mv (.c (.bool true)), some 6, none, []⟩]) (
   .ret)) (
   .skip))) (
  .seq (
  .reg [⟨.load false 1 (.v 4), none, none, []⟩,
    ⟨.mv (.v 1), none, none, []⟩,
    ⟨.indexAddr 1 (.l 0) (.l 1), none, none, []⟩,
    ⟨.store 1 (.l 2) (.c (.bool true)), none, none, []⟩]) (
  .seq (
  .reg [⟨.mv (.c (.bool false)), some 6, none, []⟩]) (
  .ret)))))⟩

def X36 : XFn :=
 ⟨32, [0, 1, 2, 6, 7, 8, 9, 14, 15, 16, 17, 18, 30], 0, [(3, none)],
  .seq (
  .reg [⟨.mv (.c (.bool false)), some 3, none, []⟩]) (
  .seq (
  .seq (
  .reg [⟨.mv (.v 0), none, none, []⟩,
    ⟨.len false (.l 0), none, none, []⟩,
    ⟨.mv (.v 1), none, none, []⟩,
    ⟨.len false (.l 2), none, none, []⟩,
    ⟨.bin .neq false (.l 1) (.l 3), some 7, none, []⟩]) (
  .cond (.v 7) (
   .seq (
   .reg [⟨.mv (.c (.bool false)), some 3, none, []⟩]) (
   .ret)) (
   .skip))) (
  .seq (
  .seq (
  .reg [⟨.mv (.v 0), some 8, none, []⟩,
    ⟨.len false (.l 0), some 9, none, []⟩,
    ⟨.mv (.c (.int .i64 0)), some 10, none, []⟩]) (
  .block 0 (
   .loop (
    .seq (
    .reg [⟨.bin .lss false (.v 10) (.v 9), some 11, none, []⟩]) (
    .seq (
    .cond (.v 11) (
     .skip) (
     .exit 0)) (
    .seq (
    .block 1 (
     .seq (
     .reg [⟨.mv (.v 10), none, none, []⟩,
       ⟨.indexAddr 1 (.v 8) (.v 10), none, none, []⟩,
       ⟨.load false 1 (.l 1), none, none, []⟩,
       ⟨.mv (.l 0), some 4, none, []⟩,
       ⟨.mv (.l 2), some 5, none, []⟩]) (
     .seq (
     .reg [⟨.mv (.v 1), none, none, []⟩,
       ⟨.mv (.v 4), none, none, []⟩,
       ⟨.indexAddr 1 (.l 0) (.l 1), none, none, []⟩,
       ⟨.load false 1 (.l 2), none, none, []⟩,
       ⟨.mv (.l 3), some 6, none, []⟩]) (
     .seq (
     .reg [⟨.mv (.v 2), none, none, []⟩,
       ⟨.mv (.v 5), none, none, []⟩,
       ⟨.mv (.v 6), none, none, []⟩,
       ⟨.callv (.l 0) [(.l 1), (.l 2)], none, none, []⟩,
       ⟨.un .not (.l 3), some 12, none, []⟩]) (
     .cond (.v 12) (
      .seq (
      .reg [⟨.mv (.c (.bool false)), some 3, none, []⟩]) (
      .ret)) (
      .skip)))))) (
    .reg [⟨.bin .add false (.v 10) (.c (.int .i64 1)), none, none, []⟩,
      ⟨.mv (.l 0), some 10, none, []⟩]))))))) (
  .seq (
  .reg [⟨.mv (.c (.bool true)), some 3, none, []⟩]) (
  .ret))))⟩

def X37 : XFn :=
 ⟨8, [0, 1, 4], 0, [(2, none)],
  .seq (
  .reg [⟨.mv (.c (.bool false)), some 2, none, []⟩]) (
  .seq (
  .reg [⟨.mv (.v 0), none, none, []⟩,
    ⟨.mv (.v 1), none, none, []⟩,
    ⟨.call 38 [(.l 0), (.l 1)] [(0, 0)] true, none, none, []⟩,
    ⟨.mv (.l 2), some 2, none, []⟩]) (
  .ret))⟩

theorem c11 : compFn Try.prog 11 = some { X11 with body := strip X11.body } := by kernel_rfl
theorem c12 : compFn Try.prog 12 = some { X12 with body := strip X12.body } := by kernel_rfl
theorem c13 : compFn Try.prog 13 = some { X13 with body := strip X13.body } := by kernel_rfl
theorem c14 : compFn Try.prog 14 = some { X14 with body := strip X14.body } := by kernel_rfl
theorem c15 : compFn Try.prog 15 = some { X15 with body := strip X15.body } := by kernel_rfl
theorem c16 : compFn Try.prog 16 = some { X16 with body := strip X16.body } := by kernel_rfl
theorem c17 : compFn Try.prog 17 = some { X17 with body := strip X17.body } := by kernel_rfl
theorem c18 : compFn Try.prog 18 = some { X18 with body := strip X18.body } := by kernel_rfl
theorem c19 : compFn Try.prog 19 = some { X19 with body := strip X19.body } := by kernel_rfl
theorem c20 : compFn Try.prog 20 = some { X20 with body := strip X20.body } := by kernel_rfl
theorem c21 : compFn Try.prog 21 = some { X21 with body := strip X21.body } := by kernel_rfl
theorem c22 : compFn Try.prog 22 = some { X22 with body := strip X22.body } := by kernel_rfl
theorem c23 : compFn Try.prog 23 = some { X23 with body := strip X23.body } := by kernel_rfl
theorem c26 : compFn Try.prog 26 = some { X26 with body := strip X26.body } := by kernel_rfl
theorem c27 : compFn Try.prog 27 = some { X27 with body := strip X27.body } := by kernel_rfl
theorem c28 : compFn Try.prog 28 = some { X28 with body := strip X28.body } := by kernel_rfl
theorem c31 : compFn Try.prog 31 = some { X31 with body := strip X31.body } := by kernel_rfl
theorem c32 : compFn Try.prog 32 = some { X32 with body := strip X32.body } := by kernel_rfl
theorem c33 : compFn Try.prog 33 = some { X33 with body := strip X33.body } := by kernel_rfl
theorem c34 : compFn Try.prog 34 = some { X34 with body := strip X34.body } := by kernel_rfl
theorem c35 : compFn Try.prog 35 = some { X35 with body := strip X35.body } := by kernel_rfl
theorem c38 : compFn Try.prog 38 = some { X38 with body := strip X38.body } := by kernel_rfl
theorem c24 : compFnAt Try.prog 24 11 = some X24 := by kernel_rfl
theorem c25 : compFnAt Try.prog 25 12 = some X25 := by kernel_rfl
theorem c29 : compFnAt Try.prog 29 6 = some X29 := by kernel_rfl
theorem c30 : compFnAt Try.prog 30 6 = some X30 := by kernel_rfl
theorem c36 : compFnAt Try.prog 36 0 = some X36 := by kernel_rfl
theorem c37 : compFnAt Try.prog 37 0 = some X37 := by kernel_rfl
end Go.Proofs.Yteafgpjhgefiiaa.S
