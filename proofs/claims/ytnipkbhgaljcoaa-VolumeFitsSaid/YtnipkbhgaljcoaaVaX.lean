/-
  Chapter 23: the functions as the plain machine has them (printed by xfn.py).
-/
import Derived.Test.YtnipkbhgaljcoaaProg
import Derived.Test.YtnipkbhgaljcoaaAmZs
import Derived.KernelRfl
namespace Go.Proofs.Ytnipkbhgaljcoaa.V
set_option linter.unusedSimpArgs false
set_option linter.unusedVariables false
set_option linter.unusedSectionVars false
open Go.Proofs.Ytnipkbhgaljcoaa.Am
theorem mixed : Try.prog.follows .mixedOrders = true := by kernel_rfl
def X8 : XFn :=
 ⟨97, [0, 1, 2, 3, 4, 5, 6, 7, 8, 23, 33, 55], 10, [(2, some (true, 3))],
  .seq (
  .reg [⟨.box 0 (.v 0), some 1, none, []⟩,
    ⟨.alloc 1 [.nils, .nils, (.int .i64 0)], some 2, none, []⟩]) (
  .seq (
  .reg [⟨.fieldAddr 0 (.v 1), none, none, []⟩,
    ⟨.load false 1 (.l 0), none, none, []⟩,
    ⟨.len false (.l 1), none, none, []⟩,
    ⟨.minmax false [(.l 2), (.c (.int .i64 9))], none, none, []⟩,
    ⟨.mv (.l 3), some 3, none, []⟩]) (
  .seq (
  .reg [⟨.mkarr 2 1 [] [], none, none, []⟩,
    ⟨.mkarr 3 1 [] [], none, none, []⟩,
    ⟨.fieldAddr 3 (.v 1), none, none, []⟩,
    ⟨.load false 1 (.l 2), none, none, []⟩,
    ⟨.bin .rem false (.l 3) (.c (.int .u8 6)), none, none, []⟩,
    ⟨.conv .i64 (.l 4), none, none, []⟩,
    ⟨.bin .add false (.c (.int .i64 1)) (.l 5), none, none, []⟩,
    ⟨.build [.nils, .nils, (.int .i64 0)] [(0, 1, (.l 0)), (1, 1, (.l 1)), (2, 1, (.l 6))], none, none, []⟩,
    ⟨.alloc 4 [.nils, .nils, (.int .i64 0)], some 4, none, []⟩,
    ⟨.store 3 (.l 8) (.l 7), none, none, []⟩]) (
  .seq (
  .seq (
  .reg [⟨.mv (.c (.int .i64 0)), some 5, none, []⟩]) (
  .block 0 (
   .loopS [1, 2, 3, 4, 5] 10 (
    .seq (
    .seq (
    .reg [⟨.mv (.v 5), none, none, []⟩,
      ⟨.mv (.v 3), none, none, []⟩,
      ⟨.bin .lss false (.l 0) (.l 1), some 9, none, []⟩]) (
    .cond (.v 9) (
     .skip) (
     .exit 0))) (
    .seq (
    .block 1 (
     .seq (
     .reg [⟨.mv (.v 3), none, none, []⟩,
       ⟨.bin .add false (.l 0) (.c (.int .i64 1)), none, none, []⟩,
       ⟨.makeSlice 5 1 8 (.int .i64 0) (.l 1) (.l 1), none, none, []⟩,
       ⟨.mv (.l 2), some 6, none, []⟩,
       ⟨.mv (.c (.int .i64 0)), some 7, none, []⟩]) (
     .seq (
     .seq (
     .reg [⟨.mv (.v 5), none, none, []⟩,
       ⟨.bin .add false (.l 0) (.c (.int .i64 1)), none, none, []⟩,
       ⟨.mv (.l 1), some 8, none, []⟩]) (
     .block 2 (
      .loopS [1, 2, 3, 4, 5, 6, 7, 8] 10 (
       .seq (
       .seq (
       .reg [⟨.mv (.v 8), none, none, []⟩,
         ⟨.mv (.v 3), none, none, []⟩,
         ⟨.bin .leq false (.l 0) (.l 1), some 10, none, []⟩]) (
       .cond (.v 10) (
        .skip) (
        .exit 2))) (
       .seq (
       .block 3 (
        .seq (
        .reg [⟨.mv (.v 7), none, none, []⟩,
          ⟨.fieldAddr 0 (.v 1), none, none, []⟩,
          ⟨.load false 1 (.l 1), none, none, []⟩,
          ⟨.mv (.v 8), none, none, []⟩,
          ⟨.bin .sub false (.l 3) (.c (.int .i64 1)), none, none, []⟩,
          ⟨.indexAddr 1 (.l 2) (.l 4), none, none, []⟩,
          ⟨.load false 1 (.l 5), none, none, []⟩,
          ⟨.bin .rem false (.l 6) (.c (.int .u8 6)), none, none, []⟩,
          ⟨.conv .i64 (.l 7), none, none, []⟩,
          ⟨.bin .add false (.l 0) (.l 8), none, none, []⟩,
          ⟨.mv (.l 9), some 7, none, []⟩]) (
        .seq (
        .reg [⟨.mv (.v 6), none, none, []⟩,
          ⟨.mv (.v 8), none, none, []⟩,
          ⟨.mv (.v 7), none, none, []⟩,
          ⟨.bin .add false (.l 2) (.c (.int .i64 1)), none, none, []⟩,
          ⟨.bin .quo false (.l 3) (.c (.int .i64 2)), none, none, []⟩,
          ⟨.indexAddr 1 (.l 0) (.l 1), none, none, []⟩,
          ⟨.store 1 (.l 5) (.l 4), none, none, []⟩]) (
        .seq (
        .reg [⟨.fieldAddr 2 (.v 1), none, none, []⟩,
          ⟨.load false 1 (.l 0), none, none, []⟩,
          ⟨.len false (.l 1), none, none, []⟩,
          ⟨.bin .gtr false (.l 2) (.c (.int .i64 0)), some 11, none, []⟩]) (
        .cond (.v 11) (
         .reg [⟨.mv (.v 6), none, none, []⟩,
           ⟨.mv (.v 8), none, none, []⟩,
           ⟨.fieldAddr 2 (.v 1), none, none, []⟩,
           ⟨.load false 1 (.l 2), none, none, []⟩,
           ⟨.mv (.v 5), none, none, []⟩,
           ⟨.bin .mul false (.c (.int .i64 7)) (.l 4), none, none, []⟩,
           ⟨.mv (.v 8), none, none, []⟩,
           ⟨.bin .add false (.l 5) (.l 6), none, none, []⟩,
           ⟨.fieldAddr 2 (.v 1), none, none, []⟩,
           ⟨.load false 1 (.l 8), none, none, []⟩,
           ⟨.len false (.l 9), none, none, []⟩,
           ⟨.bin .rem false (.l 7) (.l 10), none, none, []⟩,
           ⟨.indexAddr 1 (.l 3) (.l 11), none, none, []⟩,
           ⟨.load false 1 (.l 12), none, none, []⟩,
           ⟨.bin .rem false (.l 13) (.c (.int .i8 8)), none, none, []⟩,
           ⟨.conv .i64 (.l 14), none, none, []⟩,
           ⟨.indexAddr 1 (.l 0) (.l 1), none, none, []⟩,
           ⟨.store 1 (.l 16) (.l 15), none, none, []⟩]) (
         .skip)))))) (
       .reg [⟨.mv (.v 8), none, none, []⟩,
         ⟨.bin .add false (.l 0) (.c (.int .i64 1)), none, none, []⟩,
         ⟨.mv (.l 1), some 8, none, []⟩])))))) (
     .seq (
     .reg [⟨.fieldAddr 0 (.v 4), none, none, []⟩,
       ⟨.load false 1 (.l 0), none, none, []⟩,
       ⟨.mv (.v 6), none, none, []⟩,
       ⟨.mkarr 6 1 [.nils] [(0, (.l 2))], none, none, []⟩,
       ⟨.append 7 1 24 1 (.l 1) (.l 3), none, none, []⟩,
       ⟨.fieldAddr 0 (.v 4), none, none, []⟩,
       ⟨.store 1 (.l 5) (.l 4), none, none, []⟩]) (
     .reg [⟨.fieldAddr 1 (.v 4), none, none, [8]⟩,
       ⟨.load false 1 (.l 0), none, none, [8]⟩,
       ⟨.mv (.v 5), none, none, []⟩,
       ⟨.fieldAddr 1 (.v 1), none, none, []⟩,
       ⟨.load false 1 (.l 3), none, none, []⟩,
       ⟨.len false (.l 4), none, none, []⟩,
       ⟨.bin .geq false (.l 2) (.l 5), none, none, []⟩,
       ⟨.mv (.l 6), none, none, []⟩,
       ⟨.fieldAddr 1 (.v 1), none, some ((.l 7), false), []⟩,
       ⟨.load false 1 (.l 8), none, some ((.l 7), false), []⟩,
       ⟨.mv (.v 5), none, some ((.l 7), false), []⟩,
       ⟨.indexAddr 1 (.l 9) (.l 10), none, some ((.l 7), false), []⟩,
       ⟨.load false 1 (.l 11), none, some ((.l 7), false), []⟩,
       ⟨.pick (.l 7) (.c (.bool true)) (.l 12), none, none, []⟩,
       ⟨.mkarr 8 1 [(.bool false)] [(0, (.l 13))], none, none, []⟩,
       ⟨.append 9 1 1 1 (.l 1) (.l 14), none, none, []⟩,
       ⟨.fieldAddr 1 (.v 4), none, none, []⟩,
       ⟨.store 1 (.l 16) (.l 15), none, none, []⟩]))))) (
    .reg [⟨.mv (.v 5), none, none, []⟩,
      ⟨.bin .add false (.l 0) (.c (.int .i64 1)), none, none, []⟩,
      ⟨.mv (.l 1), some 5, none, []⟩])))))) (
  .seq (
  .reg [⟨.load true 3 (.v 4), none, none, []⟩,
    ⟨.store 3 (.v 2) (.l 0), none, none, []⟩]) (
  .ret)))))⟩

def X9 : XFn :=
 ⟨58, [0, 1, 2, 3, 4, 5, 6, 7, 8, 9, 15, 20, 26, 34, 54], 7, [(2, none), (3, none)],
  .seq (
  .reg [⟨.box 0 (.v 0), some 1, none, []⟩,
    ⟨.mv (.c .nils), some 2, none, []⟩,
    ⟨.mv (.c (.bool false)), some 3, none, []⟩]) (
  .seq (
  .reg [⟨.fieldAddr 1 (.v 1), none, none, []⟩,
    ⟨.load false 1 (.l 0), none, none, []⟩,
    ⟨.len false (.l 1), none, none, []⟩,
    ⟨.mkarr 1 1 [] [], none, none, []⟩,
    ⟨.mv (.l 2), some 4, none, []⟩,
    ⟨.mv (.l 3), some 5, none, []⟩,
    ⟨.mv (.c (.bool false)), some 6, none, []⟩]) (
  .seq (
  .seq (
  .reg [⟨.mv (.v 4), none, none, []⟩,
    ⟨.bin .eql false (.l 0) (.c (.int .i64 0)), some 10, none, []⟩]) (
  .cond (.v 10) (
   .seq (
   .reg [⟨.mv (.c .nils), some 2, none, []⟩,
     ⟨.mv (.c (.bool true)), some 3, none, []⟩]) (
   .ret)) (
   .skip))) (
  .seq (
  .seq (
  .reg [⟨.mv (.c (.int .i64 0)), some 7, none, []⟩]) (
  .block 0 (
   .loopS [1, 4, 5, 6, 7] 7 (
    .seq (
    .seq (
    .reg [⟨.mv (.v 7), none, none, []⟩,
      ⟨.mv (.v 4), none, none, []⟩,
      ⟨.bin .sub false (.l 1) (.c (.int .i64 1)), none, none, []⟩,
      ⟨.bin .shl false (.c (.int .i64 1)) (.l 2), none, none, []⟩,
      ⟨.bin .lss false (.l 0) (.l 3), some 11, none, []⟩]) (
    .cond (.v 11) (
     .skip) (
     .exit 0))) (
    .seq (
    .block 1 (
     .seq (
     .reg [⟨.mkarr 2 1 [] [], none, none, []⟩,
       ⟨.mv (.l 0), some 8, none, []⟩]) (
     .seq (
     .seq (
     .reg [⟨.mv (.c (.int .i64 1)), some 9, none, []⟩]) (
     .block 2 (
      .loopS [1, 4, 5, 6, 7, 8, 9] 7 (
       .seq (
       .seq (
       .reg [⟨.mv (.v 9), none, none, []⟩,
         ⟨.mv (.v 4), none, none, []⟩,
         ⟨.bin .lss false (.l 0) (.l 1), some 12, none, []⟩]) (
       .cond (.v 12) (
        .skip) (
        .exit 2))) (
       .seq (
       .block 3 (
        .seq (
        .reg [⟨.mv (.v 7), none, none, []⟩,
          ⟨.mv (.v 9), none, none, []⟩,
          ⟨.bin .sub false (.l 1) (.c (.int .i64 1)), none, none, []⟩,
          ⟨.bin .shr false (.l 0) (.l 2), none, none, []⟩,
          ⟨.bin .and false (.l 3) (.c (.int .i64 1)), none, none, []⟩,
          ⟨.bin .eql false (.l 4) (.c (.int .i64 1)), some 13, none, []⟩]) (
        .cond (.v 13) (
         .reg [⟨.mv (.v 8), none, none, []⟩,
           ⟨.mv (.v 9), none, none, []⟩,
           ⟨.mkarr 3 1 [(.int .i64 0)] [(0, (.l 1))], none, none, []⟩,
           ⟨.append 4 1 8 1 (.l 0) (.l 2), none, none, []⟩,
           ⟨.mv (.l 3), some 8, none, []⟩]) (
         .skip)))) (
       .reg [⟨.mv (.v 9), none, none, []⟩,
         ⟨.bin .add false (.l 0) (.c (.int .i64 1)), none, none, []⟩,
         ⟨.mv (.l 1), some 9, none, []⟩])))))) (
     .seq (
     .reg [⟨.mv (.v 8), none, none, []⟩,
       ⟨.mv (.v 4), none, none, []⟩,
       ⟨.mkarr 5 1 [(.int .i64 0)] [(0, (.l 1))], none, none, []⟩,
       ⟨.append 6 1 8 1 (.l 0) (.l 2), none, none, []⟩,
       ⟨.mv (.l 3), some 8, none, []⟩]) (
     .seq (
     .reg [⟨.load true 3 (.v 1), none, none, []⟩,
       ⟨.mv (.v 8), none, none, []⟩,
       ⟨.call 11 [(.l 0), (.l 1)] [(0, 0)] true, none, none, []⟩,
       ⟨.mv (.l 2), none, none, []⟩,
       ⟨.mv (.v 6), none, some ((.l 3), true), []⟩,
       ⟨.un .not (.l 4), none, some ((.l 3), true), []⟩,
       ⟨.mv (.l 5), none, some ((.l 3), true), []⟩,
       ⟨.mv (.v 8), none, some ((.l 6), false), []⟩,
       ⟨.mv (.v 5), none, some ((.l 6), false), []⟩,
       ⟨.call 17 [(.l 7), (.l 8)] [(0, 0)] true, none, some ((.l 6), false), []⟩,
       ⟨.pick (.l 6) (.c (.bool true)) (.l 9), none, some ((.l 3), true), []⟩,
       ⟨.pick (.l 3) (.l 10) (.c (.bool false)), some 14, none, []⟩]) (
     .cond (.v 14) (
      .reg [⟨.mv (.v 8), none, none, []⟩,
        ⟨.mv (.l 0), some 5, none, []⟩,
        ⟨.mv (.c (.bool true)), some 6, none, []⟩]) (
      .skip))))))) (
    .reg [⟨.mv (.v 7), none, none, []⟩,
      ⟨.bin .add false (.l 0) (.c (.int .i64 1)), none, none, []⟩,
      ⟨.mv (.l 1), some 7, none, []⟩])))))) (
  .seq (
  .reg [⟨.mv (.v 5), none, none, []⟩,
    ⟨.mv (.v 6), none, none, []⟩,
    ⟨.mv (.l 0), some 2, none, []⟩,
    ⟨.mv (.l 1), some 3, none, []⟩]) (
  .ret)))))⟩

def X10 : XFn :=
 ⟨68, [0, 1, 2, 3, 8, 9, 10, 12, 18, 19, 20, 21, 22, 43, 62], 0, [(4, none)],
  .seq (
  .reg [⟨.mv (.c (.bool false)), some 4, none, []⟩]) (
  .seq (
  .reg [⟨.mv (.v 1), none, none, []⟩,
    ⟨.len false (.l 0), none, none, []⟩,
    ⟨.mv (.l 1), some 5, none, []⟩]) (
  .seq (
  .seq (
  .reg [⟨.mv (.v 0), none, none, []⟩,
    ⟨.mv (.v 5), none, none, []⟩,
    ⟨.call 18 [(.l 0), (.l 1)] [(0, 0)] true, none, none, []⟩,
    ⟨.un .not (.l 2), some 8, none, []⟩]) (
  .cond (.v 8) (
   .seq (
   .reg [⟨.mv (.c (.bool false)), some 4, none, []⟩]) (
   .ret)) (
   .skip))) (
  .seq (
  .reg [⟨.mv (.c (.int .i64 0)), some 6, none, []⟩]) (
  .seq (
  .seq (
  .reg [⟨.mv (.v 2), some 9, none, []⟩,
    ⟨.len false (.l 0), some 10, none, []⟩,
    ⟨.mv (.c (.int .i64 0)), some 11, none, []⟩]) (
  .block 0 (
   .loopS [0, 1, 3, 5, 6, 9, 10, 11] 0 (
    .seq (
    .reg [⟨.bin .lss false (.v 11) (.v 10), some 12, none, []⟩]) (
    .seq (
    .cond (.v 12) (
     .skip) (
     .exit 0)) (
    .seq (
    .block 1 (
     .seq (
     .reg [⟨.indexAddr 1 (.v 9) (.v 11), none, none, []⟩,
       ⟨.load false 1 (.l 0), none, none, []⟩,
       ⟨.mv (.l 1), some 7, none, []⟩]) (
     .seq (
     .seq (
     .reg [⟨.mv (.v 7), none, none, []⟩,
       ⟨.mv (.v 6), none, none, []⟩,
       ⟨.bin .leq false (.l 0) (.l 1), none, none, []⟩,
       ⟨.mv (.l 2), none, none, []⟩,
       ⟨.mv (.v 7), none, some ((.l 3), false), []⟩,
       ⟨.mv (.v 5), none, some ((.l 3), false), []⟩,
       ⟨.bin .gtr false (.l 4) (.l 5), none, some ((.l 3), false), []⟩,
       ⟨.pick (.l 3) (.c (.bool true)) (.l 6), none, none, []⟩,
       ⟨.mv (.l 7), none, none, []⟩,
       ⟨.mv (.v 6), none, some ((.l 8), false), []⟩,
       ⟨.bin .gtr false (.l 9) (.c (.int .i64 0)), none, some ((.l 8), false), []⟩,
       ⟨.mv (.l 10), none, some ((.l 8), false), []⟩,
       ⟨.mv (.v 1), none, some ((.l 11), true), []⟩,
       ⟨.mv (.v 6), none, some ((.l 11), true), []⟩,
       ⟨.indexAddr 1 (.l 12) (.l 13), none, some ((.l 11), true), []⟩,
       ⟨.load false 1 (.l 14), none, some ((.l 11), true), []⟩,
       ⟨.un .not (.l 15), none, some ((.l 11), true), []⟩,
       ⟨.pick (.l 11) (.l 16) (.c (.bool false)), none, some ((.l 8), false), []⟩,
       ⟨.pick (.l 8) (.c (.bool true)) (.l 17), some 13, none, []⟩]) (
     .cond (.v 13) (
      .seq (
      .reg [⟨.mv (.c (.bool false)), some 4, none, []⟩]) (
      .ret)) (
      .skip))) (
     .seq (
     .seq (
     .reg [⟨.mv (.v 0), none, none, []⟩,
       ⟨.mv (.v 6), none, none, []⟩,
       ⟨.indexAddr 1 (.l 0) (.l 1), none, none, []⟩,
       ⟨.load false 1 (.l 2), none, none, []⟩,
       ⟨.mv (.v 7), none, none, []⟩,
       ⟨.indexAddr 1 (.l 3) (.l 4), none, none, []⟩,
       ⟨.load false 1 (.l 5), none, none, []⟩,
       ⟨.bin .lss false (.l 6) (.c (.int .i64 1)), none, none, []⟩,
       ⟨.mv (.l 7), none, none, []⟩,
       ⟨.mv (.v 0), none, some ((.l 8), false), []⟩,
       ⟨.mv (.v 6), none, some ((.l 8), false), []⟩,
       ⟨.indexAddr 1 (.l 9) (.l 10), none, some ((.l 8), false), []⟩,
       ⟨.load false 1 (.l 11), none, some ((.l 8), false), []⟩,
       ⟨.mv (.v 7), none, some ((.l 8), false), []⟩,
       ⟨.indexAddr 1 (.l 12) (.l 13), none, some ((.l 8), false), []⟩,
       ⟨.load false 1 (.l 14), none, some ((.l 8), false), []⟩,
       ⟨.mv (.v 3), none, some ((.l 8), false), []⟩,
       ⟨.bin .gtr false (.l 15) (.l 16), none, some ((.l 8), false), []⟩,
       ⟨.pick (.l 8) (.c (.bool true)) (.l 17), some 14, none, []⟩]) (
     .cond (.v 14) (
      .seq (
      .reg [⟨.mv (.c (.bool false)), some 4, none, []⟩]) (
      .ret)) (
      .skip))) (
     .reg [⟨.mv (.v 7), none, none, []⟩,
       ⟨.mv (.l 0), some 6, none, []⟩]))))) (
    .reg [⟨.bin .add false (.v 11) (.c (.int .i64 1)), none, none, []⟩,
      ⟨.mv (.l 0), some 11, none, []⟩]))))))) (
  .seq (
  .reg [⟨.mv (.v 6), none, none, []⟩,
    ⟨.mv (.v 5), none, none, []⟩,
    ⟨.bin .eql false (.l 0) (.l 1), none, none, []⟩,
    ⟨.mv (.l 2), some 4, none, []⟩]) (
  .ret))))))⟩

def X11 : XFn :=
 ⟨51, [0, 1, 2, 4, 5, 6, 9, 13, 41], 1, [(3, none)],
  .seq (
  .reg [⟨.box 0 (.v 0), some 2, none, []⟩,
    ⟨.mv (.c (.bool false)), some 3, none, []⟩]) (
  .seq (
  .seq (
  .reg [⟨.load true 3 (.v 2), none, none, []⟩,
    ⟨.call 13 [(.l 0)] [(0, 0)] true, none, none, []⟩,
    ⟨.un .not (.l 1), some 6, none, []⟩]) (
  .cond (.v 6) (
   .seq (
   .reg [⟨.mv (.c (.bool false)), some 3, none, []⟩]) (
   .ret)) (
   .skip))) (
  .seq (
  .reg [⟨.mv (.c (.int .i64 0)), some 4, none, []⟩]) (
  .seq (
  .seq (
  .reg [⟨.mv (.c (.int .i64 0)), some 5, none, []⟩]) (
  .block 0 (
   .loopS [1, 2, 4, 5] 1 (
    .seq (
    .seq (
    .reg [⟨.mv (.v 5), none, none, []⟩,
      ⟨.mv (.v 1), none, none, []⟩,
      ⟨.len false (.l 1), none, none, []⟩,
      ⟨.bin .lss false (.l 0) (.l 2), some 7, none, []⟩]) (
    .cond (.v 7) (
     .skip) (
     .exit 0))) (
    .seq (
    .block 1 (
     .seq (
     .seq (
     .reg [⟨.mv (.v 1), none, none, []⟩,
       ⟨.mv (.v 5), none, none, []⟩,
       ⟨.indexAddr 1 (.l 0) (.l 1), none, none, []⟩,
       ⟨.load false 1 (.l 2), none, none, []⟩,
       ⟨.mv (.v 4), none, none, []⟩,
       ⟨.bin .leq false (.l 3) (.l 4), none, none, []⟩,
       ⟨.mv (.l 5), none, none, []⟩,
       ⟨.mv (.v 1), none, some ((.l 6), false), []⟩,
       ⟨.mv (.v 5), none, some ((.l 6), false), []⟩,
       ⟨.indexAddr 1 (.l 7) (.l 8), none, some ((.l 6), false), []⟩,
       ⟨.load false 1 (.l 9), none, some ((.l 6), false), []⟩,
       ⟨.fieldAddr 1 (.v 2), none, some ((.l 6), false), []⟩,
       ⟨.load false 1 (.l 11), none, some ((.l 6), false), []⟩,
       ⟨.len false (.l 12), none, some ((.l 6), false), []⟩,
       ⟨.bin .gtr false (.l 10) (.l 13), none, some ((.l 6), false), []⟩,
       ⟨.pick (.l 6) (.c (.bool true)) (.l 14), none, none, []⟩,
       ⟨.mv (.l 15), none, none, []⟩,
       ⟨.load true 3 (.v 2), none, some ((.l 16), false), []⟩,
       ⟨.mv (.v 4), none, some ((.l 16), false), []⟩,
       ⟨.mv (.v 1), none, some ((.l 16), false), []⟩,
       ⟨.mv (.v 5), none, some ((.l 16), false), []⟩,
       ⟨.indexAddr 1 (.l 19) (.l 20), none, some ((.l 16), false), []⟩,
       ⟨.load false 1 (.l 21), none, some ((.l 16), false), []⟩,
       ⟨.call 19 [(.l 17), (.l 18), (.l 22)] [(0, 0)] false, none, some ((.l 16), false), []⟩,
       ⟨.un .not (.l 23), none, some ((.l 16), false), []⟩,
       ⟨.pick (.l 16) (.c (.bool true)) (.l 24), some 8, none, []⟩]) (
     .cond (.v 8) (
      .seq (
      .reg [⟨.mv (.c (.bool false)), some 3, none, []⟩]) (
      .ret)) (
      .skip))) (
     .reg [⟨.mv (.v 1), none, none, []⟩,
       ⟨.mv (.v 5), none, none, []⟩,
       ⟨.indexAddr 1 (.l 0) (.l 1), none, none, []⟩,
       ⟨.load false 1 (.l 2), none, none, []⟩,
       ⟨.mv (.l 3), some 4, none, []⟩]))) (
    .reg [⟨.mv (.v 5), none, none, []⟩,
      ⟨.bin .add false (.l 0) (.c (.int .i64 1)), none, none, []⟩,
      ⟨.mv (.l 1), some 5, none, []⟩])))))) (
  .seq (
  .reg [⟨.mv (.v 4), none, none, []⟩,
    ⟨.fieldAddr 1 (.v 2), none, none, []⟩,
    ⟨.load false 1 (.l 1), none, none, []⟩,
    ⟨.len false (.l 2), none, none, []⟩,
    ⟨.bin .eql false (.l 0) (.l 3), none, none, []⟩,
    ⟨.mv (.l 4), some 3, none, []⟩]) (
  .ret)))))⟩

def X12 : XFn :=
 ⟨146, [0, 1, 2, 6, 7, 8, 9, 10, 11, 12, 13, 14, 15, 25, 35, 44, 84, 101, 118, 122, 127], 6, [(3, none), (4, none)],
  .seq (
  .reg [⟨.mv (.c .nils), some 3, none, []⟩,
    ⟨.mv (.c (.int .i64 0)), some 4, none, []⟩]) (
  .seq (
  .reg [⟨.mv (.v 1), none, none, []⟩,
    ⟨.len false (.l 0), none, none, []⟩,
    ⟨.mv (.l 1), some 5, none, []⟩]) (
  .seq (
  .seq (
  .reg [⟨.mv (.v 0), none, none, []⟩,
    ⟨.mv (.v 5), none, none, []⟩,
    ⟨.call 18 [(.l 0), (.l 1)] [(0, 0)] true, none, none, []⟩,
    ⟨.un .not (.l 2), none, none, []⟩,
    ⟨.mv (.l 3), none, none, []⟩,
    ⟨.mv (.v 2), none, some ((.l 4), false), []⟩,
    ⟨.bin .lss false (.l 5) (.c (.int .i64 1)), none, some ((.l 4), false), []⟩,
    ⟨.pick (.l 4) (.c (.bool true)) (.l 6), some 13, none, []⟩]) (
  .cond (.v 13) (
   .seq (
   .reg [⟨.mv (.c .nils), some 3, none, []⟩,
     ⟨.mv (.c (.int .i64 1)), some 4, none, []⟩]) (
   .ret)) (
   .skip))) (
  .seq (
  .reg [⟨.mv (.v 5), none, none, []⟩,
    ⟨.bin .add false (.l 0) (.c (.int .i64 1)), none, none, []⟩,
    ⟨.makeSlice 0 1 8 (.int .i64 0) (.l 1) (.l 1), none, none, []⟩,
    ⟨.mv (.l 2), some 6, none, []⟩]) (
  .seq (
  .reg [⟨.mv (.v 5), none, none, []⟩,
    ⟨.bin .add false (.l 0) (.c (.int .i64 1)), none, none, []⟩,
    ⟨.makeSlice 1 1 8 (.int .i64 0) (.l 1) (.l 1), none, none, []⟩,
    ⟨.mv (.l 2), some 7, none, []⟩]) (
  .seq (
  .seq (
  .reg [⟨.mv (.v 5), none, none, []⟩,
    ⟨.bin .sub false (.l 0) (.c (.int .i64 1)), none, none, []⟩,
    ⟨.mv (.l 1), some 8, none, []⟩]) (
  .block 0 (
   .loopS [0, 1, 2, 5, 6, 7, 8] 6 (
    .seq (
    .seq (
    .reg [⟨.mv (.v 8), none, none, []⟩,
      ⟨.bin .geq false (.l 0) (.c (.int .i64 0)), some 14, none, []⟩]) (
    .cond (.v 14) (
     .skip) (
     .exit 0))) (
    .seq (
    .block 1 (
     .seq (
     .reg [⟨.mv (.v 6), none, none, []⟩,
       ⟨.mv (.v 8), none, none, []⟩,
       ⟨.indexAddr 1 (.l 0) (.l 1), none, none, []⟩,
       ⟨.store 1 (.l 2) (.c (.int .i64 (-1))), none, none, []⟩]) (
     .seq (
     .skip) (
     .seq (
     .reg [⟨.mv (.v 5), none, none, []⟩,
       ⟨.mv (.l 0), some 9, none, []⟩]) (
     .block 2 (
      .loopS [0, 1, 2, 5, 6, 7, 8, 9] 6 (
       .seq (
       .seq (
       .reg [⟨.mv (.v 9), none, none, []⟩,
         ⟨.mv (.v 8), none, none, []⟩,
         ⟨.bin .gtr false (.l 0) (.l 1), some 15, none, []⟩]) (
       .cond (.v 15) (
        .skip) (
        .exit 2))) (
       .seq (
       .block 3 (
        .seq (
        .seq (
        .reg [⟨.mv (.v 6), none, none, []⟩,
          ⟨.mv (.v 9), none, none, []⟩,
          ⟨.indexAddr 1 (.l 0) (.l 1), none, none, []⟩,
          ⟨.load false 1 (.l 2), none, none, []⟩,
          ⟨.bin .lss false (.l 3) (.c (.int .i64 0)), none, none, []⟩,
          ⟨.mv (.l 4), none, none, []⟩,
          ⟨.mv (.v 9), none, some ((.l 5), false), []⟩,
          ⟨.mv (.v 5), none, some ((.l 5), false), []⟩,
          ⟨.bin .lss false (.l 6) (.l 7), none, some ((.l 5), false), []⟩,
          ⟨.mv (.l 8), none, some ((.l 5), false), []⟩,
          ⟨.mv (.v 1), none, some ((.l 9), true), []⟩,
          ⟨.mv (.v 9), none, some ((.l 9), true), []⟩,
          ⟨.indexAddr 1 (.l 10) (.l 11), none, some ((.l 9), true), []⟩,
          ⟨.load false 1 (.l 12), none, some ((.l 9), true), []⟩,
          ⟨.un .not (.l 13), none, some ((.l 9), true), []⟩,
          ⟨.pick (.l 9) (.l 14) (.c (.bool false)), none, some ((.l 5), false), []⟩,
          ⟨.pick (.l 5) (.c (.bool true)) (.l 15), none, none, []⟩,
          ⟨.mv (.l 16), none, none, []⟩,
          ⟨.mv (.v 0), none, some ((.l 17), false), []⟩,
          ⟨.mv (.v 8), none, some ((.l 17), false), []⟩,
          ⟨.indexAddr 1 (.l 18) (.l 19), none, some ((.l 17), false), []⟩,
          ⟨.load false 1 (.l 20), none, some ((.l 17), false), []⟩,
          ⟨.mv (.v 9), none, some ((.l 17), false), []⟩,
          ⟨.indexAddr 1 (.l 21) (.l 22), none, some ((.l 17), false), []⟩,
          ⟨.load false 1 (.l 23), none, some ((.l 17), false), []⟩,
          ⟨.bin .lss false (.l 24) (.c (.int .i64 1)), none, some ((.l 17), false), []⟩,
          ⟨.pick (.l 17) (.c (.bool true)) (.l 25), none, none, []⟩,
          ⟨.mv (.l 26), none, none, []⟩,
          ⟨.mv (.v 0), none, some ((.l 27), false), []⟩,
          ⟨.mv (.v 8), none, some ((.l 27), false), []⟩,
          ⟨.indexAddr 1 (.l 28) (.l 29), none, some ((.l 27), false), []⟩,
          ⟨.load false 1 (.l 30), none, some ((.l 27), false), []⟩,
          ⟨.mv (.v 9), none, some ((.l 27), false), []⟩,
          ⟨.indexAddr 1 (.l 31) (.l 32), none, some ((.l 27), false), []⟩,
          ⟨.load false 1 (.l 33), none, some ((.l 27), false), []⟩,
          ⟨.mv (.v 2), none, some ((.l 27), false), []⟩,
          ⟨.bin .gtr false (.l 34) (.l 35), none, some ((.l 27), false), []⟩,
          ⟨.pick (.l 27) (.c (.bool true)) (.l 36), some 16, none, []⟩]) (
        .cond (.v 16) (
         .exit 3) (
         .skip))) (
        .seq (
        .seq (
        .reg [⟨.mv (.v 6), none, none, []⟩,
          ⟨.mv (.v 8), none, none, []⟩,
          ⟨.indexAddr 1 (.l 0) (.l 1), none, none, []⟩,
          ⟨.load false 1 (.l 2), none, none, []⟩,
          ⟨.bin .lss false (.l 3) (.c (.int .i64 0)), none, none, []⟩,
          ⟨.mv (.l 4), none, none, []⟩,
          ⟨.mv (.v 6), none, some ((.l 5), false), []⟩,
          ⟨.mv (.v 9), none, some ((.l 5), false), []⟩,
          ⟨.indexAddr 1 (.l 6) (.l 7), none, some ((.l 5), false), []⟩,
          ⟨.load false 1 (.l 8), none, some ((.l 5), false), []⟩,
          ⟨.bin .add false (.l 9) (.c (.int .i64 1)), none, some ((.l 5), false), []⟩,
          ⟨.mv (.v 6), none, some ((.l 5), false), []⟩,
          ⟨.mv (.v 8), none, some ((.l 5), false), []⟩,
          ⟨.indexAddr 1 (.l 11) (.l 12), none, some ((.l 5), false), []⟩,
          ⟨.load false 1 (.l 13), none, some ((.l 5), false), []⟩,
          ⟨.bin .lss false (.l 10) (.l 14), none, some ((.l 5), false), []⟩,
          ⟨.pick (.l 5) (.c (.bool true)) (.l 15), some 17, none, []⟩]) (
        .cond (.v 17) (
         .reg [⟨.mv (.v 6), none, none, []⟩,
           ⟨.mv (.v 8), none, none, []⟩,
           ⟨.mv (.v 7), none, none, []⟩,
           ⟨.mv (.v 8), none, none, []⟩,
           ⟨.mv (.v 6), none, none, []⟩,
           ⟨.mv (.v 9), none, none, []⟩,
           ⟨.indexAddr 1 (.l 4) (.l 5), none, none, []⟩,
           ⟨.load false 1 (.l 6), none, none, []⟩,
           ⟨.bin .add false (.l 7) (.c (.int .i64 1)), none, none, []⟩,
           ⟨.mv (.v 9), none, none, []⟩,
           ⟨.indexAddr 1 (.l 0) (.l 1), none, none, []⟩,
           ⟨.store 1 (.l 10) (.l 8), none, none, []⟩,
           ⟨.indexAddr 1 (.l 2) (.l 3), none, none, []⟩,
           ⟨.store 1 (.l 12) (.l 9), none, none, []⟩]) (
         .skip))) (
        .seq (
        .reg [⟨.mv (.v 6), none, none, []⟩,
          ⟨.mv (.v 8), none, none, []⟩,
          ⟨.indexAddr 1 (.l 0) (.l 1), none, none, []⟩,
          ⟨.load false 1 (.l 2), none, none, []⟩,
          ⟨.bin .eql false (.l 3) (.c (.int .i64 1)), some 18, none, []⟩]) (
        .cond (.v 18) (
         .exit 2) (
         .skip)))))) (
       .reg [⟨.mv (.v 9), none, none, []⟩,
         ⟨.bin .sub false (.l 0) (.c (.int .i64 1)), none, none, []⟩,
         ⟨.mv (.l 1), some 9, none, []⟩]))))))))) (
    .reg [⟨.mv (.v 8), none, none, []⟩,
      ⟨.bin .sub false (.l 0) (.c (.int .i64 1)), none, none, []⟩,
      ⟨.mv (.l 1), some 8, none, []⟩])))))) (
  .seq (
  .seq (
  .reg [⟨.mv (.v 6), none, none, []⟩,
    ⟨.indexAddr 1 (.l 0) (.c (.int .i64 0)), none, none, []⟩,
    ⟨.load false 1 (.l 1), none, none, []⟩,
    ⟨.bin .lss false (.l 2) (.c (.int .i64 0)), some 19, none, []⟩]) (
  .cond (.v 19) (
   .seq (
   .reg [⟨.mv (.c .nils), some 3, none, []⟩,
     ⟨.mv (.c (.int .i64 230)), some 4, none, []⟩]) (
   .ret)) (
   .skip))) (
  .seq (
  .reg [⟨.mv (.v 5), none, none, []⟩,
    ⟨.makeSlice 2 1 8 (.int .i64 0) (.c (.int .i64 0)) (.l 0), none, none, []⟩,
    ⟨.mv (.l 1), some 10, none, []⟩]) (
  .seq (
  .seq (
  .reg [⟨.mv (.c (.int .i64 0)), some 11, none, []⟩]) (
  .block 4 (
   .loopS [5, 7, 10, 11] 6 (
    .seq (
    .seq (
    .reg [⟨.mv (.v 11), none, none, []⟩,
      ⟨.mv (.v 5), none, none, []⟩,
      ⟨.bin .lss false (.l 0) (.l 1), some 20, none, []⟩]) (
    .cond (.v 20) (
     .skip) (
     .exit 4))) (
    .seq (
    .block 5 (
     .reg [⟨.mv (.v 10), none, none, []⟩,
       ⟨.mv (.v 7), none, none, []⟩,
       ⟨.mv (.v 11), none, none, []⟩,
       ⟨.indexAddr 1 (.l 1) (.l 2), none, none, []⟩,
       ⟨.load false 1 (.l 3), none, none, []⟩,
       ⟨.mkarr 3 1 [(.int .i64 0)] [(0, (.l 4))], none, none, []⟩,
       ⟨.append 4 1 8 1 (.l 0) (.l 5), none, none, []⟩,
       ⟨.mv (.l 6), some 10, none, []⟩])) (
    .reg [⟨.mv (.v 7), none, none, []⟩,
      ⟨.mv (.v 11), none, none, []⟩,
      ⟨.indexAddr 1 (.l 0) (.l 1), none, none, []⟩,
      ⟨.load false 1 (.l 2), none, none, []⟩,
      ⟨.mv (.l 3), some 11, none, []⟩])))))) (
  .seq (
  .reg [⟨.mv (.v 10), none, none, []⟩,
    ⟨.len false (.l 0), none, none, []⟩,
    ⟨.makeSlice 5 1 8 (.int .i64 0) (.l 1) (.l 1), none, none, []⟩,
    ⟨.mv (.l 2), some 12, none, []⟩]) (
  .seq (
  .reg [⟨.mv (.v 12), none, none, []⟩,
    ⟨.mv (.v 10), none, none, []⟩,
    ⟨.copy 1 (.l 0) (.l 1), none, none, []⟩]) (
  .seq (
  .reg [⟨.mv (.v 12), none, none, []⟩,
    ⟨.mv (.l 0), some 3, none, []⟩,
    ⟨.mv (.c (.int .i64 0)), some 4, none, []⟩]) (
  .ret))))))))))))⟩

def X13 : XFn :=
 ⟨9, [0, 1, 2], 1, [(2, none)],
  .seq (
  .reg [⟨.box 0 (.v 0), some 1, none, []⟩,
    ⟨.mv (.c (.bool false)), some 2, none, []⟩]) (
  .seq (
  .reg [⟨.fieldAddr 0 (.v 1), none, none, []⟩,
    ⟨.load false 1 (.l 0), none, none, []⟩,
    ⟨.fieldAddr 1 (.v 1), none, none, []⟩,
    ⟨.load false 1 (.l 2), none, none, []⟩,
    ⟨.len false (.l 3), none, none, []⟩,
    ⟨.call 20 [(.l 1), (.l 4)] [(0, 0)] true, none, none, []⟩,
    ⟨.mv (.l 5), some 2, none, []⟩]) (
  .ret))⟩

def X14 : XFn :=
 ⟨38, [0, 1, 2, 4, 5, 6, 22], 8, [(3, some (true, 3))],
  .seq (
  .reg [⟨.box 0 (.v 0), some 2, none, []⟩,
    ⟨.alloc 1 [.nils, .nils, (.int .i64 0)], some 3, none, []⟩]) (
  .seq (
  .reg [⟨.mkarr 2 1 [] [], none, none, [3, 3, 5]⟩,
    ⟨.mkarr 3 1 [] [], none, none, [2, 5]⟩,
    ⟨.fieldAddr 1 (.v 2), none, none, [2, 3, 5]⟩,
    ⟨.load false 1 (.l 2), none, none, [2, 3, 5]⟩,
    ⟨.mv (.v 1), none, none, [2, 3, 5]⟩,
    ⟨.slice false 1 (.l 3) (some (.l 4)) none none, none, none, [2, 3, 5]⟩,
    ⟨.append 3 1 1 2 (.l 1) (.l 5), none, none, [2, 5]⟩,
    ⟨.fieldAddr 2 (.v 2), none, none, [2, 3, 3, 5]⟩,
    ⟨.load false 1 (.l 7), none, none, [2, 3, 3, 5]⟩,
    ⟨.build [.nils, .nils, (.int .i64 0)] [(0, 1, (.l 0)), (1, 1, (.l 6)), (2, 1, (.l 8))], none, none, [5]⟩,
    ⟨.alloc 5 [.nils, .nils, (.int .i64 0)], some 4, none, [2, 3, 3]⟩,
    ⟨.store 3 (.l 10) (.l 9), none, none, []⟩]) (
  .seq (
  .seq (
  .reg [⟨.mv (.v 1), none, none, []⟩,
    ⟨.mv (.l 0), some 5, none, []⟩]) (
  .block 0 (
   .loopS [1, 2, 3, 4, 5] 8 (
    .seq (
    .seq (
    .reg [⟨.mv (.v 5), none, none, []⟩,
      ⟨.fieldAddr 0 (.v 2), none, none, []⟩,
      ⟨.load false 1 (.l 1), none, none, []⟩,
      ⟨.len false (.l 2), none, none, []⟩,
      ⟨.bin .lss false (.l 0) (.l 3), some 6, none, []⟩]) (
    .cond (.v 6) (
     .skip) (
     .exit 0))) (
    .seq (
    .block 1 (
     .reg [⟨.fieldAddr 0 (.v 4), none, none, [6]⟩,
       ⟨.load false 1 (.l 0), none, none, [6]⟩,
       ⟨.fieldAddr 0 (.v 2), none, none, []⟩,
       ⟨.load false 1 (.l 2), none, none, []⟩,
       ⟨.mv (.v 5), none, none, []⟩,
       ⟨.indexAddr 1 (.l 3) (.l 4), none, none, []⟩,
       ⟨.load false 1 (.l 5), none, none, []⟩,
       ⟨.mv (.v 1), none, none, []⟩,
       ⟨.slice false 1 (.l 6) (some (.l 7)) none none, none, none, []⟩,
       ⟨.mkarr 6 1 [.nils] [(0, (.l 8))], none, none, []⟩,
       ⟨.append 7 1 24 1 (.l 1) (.l 9), none, none, []⟩,
       ⟨.fieldAddr 0 (.v 4), none, none, []⟩,
       ⟨.store 1 (.l 11) (.l 10), none, none, []⟩])) (
    .reg [⟨.mv (.v 5), none, none, []⟩,
      ⟨.bin .add false (.l 0) (.c (.int .i64 1)), none, none, []⟩,
      ⟨.mv (.l 1), some 5, none, []⟩])))))) (
  .seq (
  .reg [⟨.load true 3 (.v 4), none, none, []⟩,
    ⟨.store 3 (.v 3) (.l 0), none, none, []⟩]) (
  .ret))))⟩

def X15 : XFn :=
 ⟨8, [0, 2], 4, [(1, some (true, 3))],
  .seq (
  .reg [⟨.alloc 0 [.nils, .nils, (.int .i64 0)], some 1, none, []⟩]) (
  .seq (
  .reg [⟨.mkarr 1 1 [(.int .u8 0), (.int .u8 0), (.int .u8 0), (.int .u8 0), (.int .u8 0), (.int .u8 0)] [(0, (.c (.int .u8 2))), (1, (.c (.int .u8 2))), (2, (.c (.int .u8 2))), (3, (.c (.int .u8 2))), (4, (.c (.int .u8 2))), (5, (.c (.int .u8 2)))], none, none, []⟩,
    ⟨.mv (.v 0), none, none, []⟩,
    ⟨.slice false 1 (.l 0) none (some (.l 1)) none, none, none, []⟩,
    ⟨.build [.nils, .nils, .nils, (.int .u8 0)] [(0, 1, (.l 2)), (3, 1, (.c (.int .u8 1)))], none, none, []⟩,
    ⟨.call 8 [(.l 3)] [(2, 1), (3, 1), (0, 0)] true, none, none, []⟩,
    ⟨.store 3 (.v 1) (.l 4), none, none, []⟩]) (
  .ret))⟩

def X16 : XFn :=
 ⟨26, [0, 1, 4, 5, 10, 14, 25], 0, [(2, none)],
  .seq (
  .reg [⟨.mv (.c (.bool false)), some 2, none, []⟩]) (
  .seq (
  .seq (
  .reg [⟨.mv (.v 0), none, none, []⟩,
    ⟨.len false (.l 0), none, none, []⟩,
    ⟨.mv (.v 1), none, none, []⟩,
    ⟨.len false (.l 2), none, none, []⟩,
    ⟨.bin .neq false (.l 1) (.l 3), some 4, none, []⟩]) (
  .cond (.v 4) (
   .seq (
   .reg [⟨.mv (.c (.bool false)), some 2, none, []⟩]) (
   .ret)) (
   .skip))) (
  .seq (
  .seq (
  .reg [⟨.mv (.c (.int .i64 0)), some 3, none, []⟩]) (
  .block 0 (
   .loopS [0, 1, 3] 0 (
    .seq (
    .seq (
    .reg [⟨.mv (.v 3), none, none, []⟩,
      ⟨.mv (.v 0), none, none, []⟩,
      ⟨.len false (.l 1), none, none, []⟩,
      ⟨.bin .lss false (.l 0) (.l 2), some 5, none, []⟩]) (
    .cond (.v 5) (
     .skip) (
     .exit 0))) (
    .seq (
    .block 1 (
     .seq (
     .reg [⟨.mv (.v 0), none, none, []⟩,
       ⟨.mv (.v 3), none, none, []⟩,
       ⟨.indexAddr 1 (.l 0) (.l 1), none, none, []⟩,
       ⟨.load false 1 (.l 2), none, none, []⟩,
       ⟨.mv (.v 1), none, none, []⟩,
       ⟨.mv (.v 3), none, none, []⟩,
       ⟨.indexAddr 1 (.l 4) (.l 5), none, none, []⟩,
       ⟨.load false 1 (.l 6), none, none, []⟩,
       ⟨.bin .neq false (.l 3) (.l 7), some 6, none, []⟩]) (
     .cond (.v 6) (
      .seq (
      .reg [⟨.mv (.c (.bool false)), some 2, none, []⟩]) (
      .ret)) (
      .skip)))) (
    .reg [⟨.mv (.v 3), none, none, []⟩,
      ⟨.bin .add false (.l 0) (.c (.int .i64 1)), none, none, []⟩,
      ⟨.mv (.l 1), some 3, none, []⟩])))))) (
  .seq (
  .reg [⟨.mv (.c (.bool true)), some 2, none, []⟩]) (
  .ret))))⟩

def X17 : XFn :=
 ⟨40, [0, 1, 4, 5, 10, 19, 30], 0, [(2, none)],
  .seq (
  .reg [⟨.mv (.c (.bool false)), some 2, none, []⟩]) (
  .seq (
  .seq (
  .reg [⟨.mv (.v 0), none, none, []⟩,
    ⟨.len false (.l 0), none, none, []⟩,
    ⟨.mv (.v 1), none, none, []⟩,
    ⟨.len false (.l 2), none, none, []⟩,
    ⟨.bin .neq false (.l 1) (.l 3), some 4, none, []⟩]) (
  .cond (.v 4) (
   .seq (
   .reg [⟨.mv (.v 0), none, none, []⟩,
     ⟨.len false (.l 0), none, none, []⟩,
     ⟨.mv (.v 1), none, none, []⟩,
     ⟨.len false (.l 2), none, none, []⟩,
     ⟨.bin .lss false (.l 1) (.l 3), none, none, []⟩,
     ⟨.mv (.l 4), some 2, none, []⟩]) (
   .ret)) (
   .skip))) (
  .seq (
  .seq (
  .reg [⟨.mv (.c (.int .i64 0)), some 3, none, []⟩]) (
  .block 0 (
   .loopS [0, 1, 3] 0 (
    .seq (
    .seq (
    .reg [⟨.mv (.v 3), none, none, []⟩,
      ⟨.mv (.v 0), none, none, []⟩,
      ⟨.len false (.l 1), none, none, []⟩,
      ⟨.bin .lss false (.l 0) (.l 2), some 5, none, []⟩]) (
    .cond (.v 5) (
     .skip) (
     .exit 0))) (
    .seq (
    .block 1 (
     .seq (
     .reg [⟨.mv (.v 0), none, none, []⟩,
       ⟨.mv (.v 3), none, none, []⟩,
       ⟨.indexAddr 1 (.l 0) (.l 1), none, none, []⟩,
       ⟨.load false 1 (.l 2), none, none, []⟩,
       ⟨.mv (.v 1), none, none, []⟩,
       ⟨.mv (.v 3), none, none, []⟩,
       ⟨.indexAddr 1 (.l 4) (.l 5), none, none, []⟩,
       ⟨.load false 1 (.l 6), none, none, []⟩,
       ⟨.bin .neq false (.l 3) (.l 7), some 6, none, []⟩]) (
     .cond (.v 6) (
      .seq (
      .reg [⟨.mv (.v 0), none, none, []⟩,
        ⟨.mv (.v 3), none, none, []⟩,
        ⟨.indexAddr 1 (.l 0) (.l 1), none, none, []⟩,
        ⟨.load false 1 (.l 2), none, none, []⟩,
        ⟨.mv (.v 1), none, none, []⟩,
        ⟨.mv (.v 3), none, none, []⟩,
        ⟨.indexAddr 1 (.l 4) (.l 5), none, none, []⟩,
        ⟨.load false 1 (.l 6), none, none, []⟩,
        ⟨.bin .gtr false (.l 3) (.l 7), none, none, []⟩,
        ⟨.mv (.l 8), some 2, none, []⟩]) (
      .ret)) (
      .skip)))) (
    .reg [⟨.mv (.v 3), none, none, []⟩,
      ⟨.bin .add false (.l 0) (.c (.int .i64 1)), none, none, []⟩,
      ⟨.mv (.l 1), some 3, none, []⟩])))))) (
  .seq (
  .reg [⟨.mv (.c (.bool false)), some 2, none, []⟩]) (
  .ret))))⟩

def X18 : XFn :=
 ⟨23, [0, 1, 4, 6, 10, 11, 12, 13, 14, 21], 0, [(2, none)],
  .seq (
  .reg [⟨.mv (.c (.bool false)), some 2, none, []⟩]) (
  .seq (
  .seq (
  .reg [⟨.mv (.v 0), none, none, []⟩,
    ⟨.len false (.l 0), none, none, []⟩,
    ⟨.mv (.v 1), none, none, []⟩,
    ⟨.bin .neq false (.l 1) (.l 2), some 4, none, []⟩]) (
  .cond (.v 4) (
   .seq (
   .reg [⟨.mv (.c (.bool false)), some 2, none, []⟩]) (
   .ret)) (
   .skip))) (
  .seq (
  .seq (
  .reg [⟨.mv (.v 0), some 5, none, []⟩,
    ⟨.len false (.l 0), some 6, none, []⟩,
    ⟨.mv (.c (.int .i64 0)), some 7, none, []⟩]) (
  .block 0 (
   .loopS [1, 5, 6, 7] 0 (
    .seq (
    .reg [⟨.bin .lss false (.v 7) (.v 6), some 8, none, []⟩]) (
    .seq (
    .cond (.v 8) (
     .skip) (
     .exit 0)) (
    .seq (
    .block 1 (
     .seq (
     .reg [⟨.indexAddr 1 (.v 5) (.v 7), none, none, []⟩,
       ⟨.load false 1 (.l 0), none, none, []⟩,
       ⟨.mv (.l 1), some 3, none, []⟩]) (
     .seq (
     .reg [⟨.mv (.v 3), none, none, []⟩,
       ⟨.len false (.l 0), none, none, []⟩,
       ⟨.mv (.v 1), none, none, []⟩,
       ⟨.bin .add false (.l 2) (.c (.int .i64 1)), none, none, []⟩,
       ⟨.bin .neq false (.l 1) (.l 3), some 9, none, []⟩]) (
     .cond (.v 9) (
      .seq (
      .reg [⟨.mv (.c (.bool false)), some 2, none, []⟩]) (
      .ret)) (
      .skip))))) (
    .reg [⟨.bin .add false (.v 7) (.c (.int .i64 1)), none, none, []⟩,
      ⟨.mv (.l 0), some 7, none, []⟩]))))))) (
  .seq (
  .reg [⟨.mv (.c (.bool true)), some 2, none, []⟩]) (
  .ret))))⟩

def X19 : XFn :=
 ⟨40, [0, 1, 2, 3, 6], 1, [(4, none)],
  .seq (
  .reg [⟨.box 0 (.v 0), some 3, none, []⟩,
    ⟨.mv (.c (.bool false)), some 4, none, []⟩]) (
  .seq (
  .reg [⟨.fieldAddr 0 (.v 3), none, none, []⟩,
    ⟨.load false 1 (.l 0), none, none, []⟩,
    ⟨.mv (.v 1), none, none, []⟩,
    ⟨.indexAddr 1 (.l 1) (.l 2), none, none, []⟩,
    ⟨.load false 1 (.l 3), none, none, []⟩,
    ⟨.mv (.v 2), none, none, []⟩,
    ⟨.indexAddr 1 (.l 4) (.l 5), none, none, []⟩,
    ⟨.load false 1 (.l 6), none, none, []⟩,
    ⟨.bin .geq false (.l 7) (.c (.int .i64 1)), none, none, []⟩,
    ⟨.mv (.l 8), none, none, []⟩,
    ⟨.fieldAddr 0 (.v 3), none, some ((.l 9), true), []⟩,
    ⟨.load false 1 (.l 10), none, some ((.l 9), true), []⟩,
    ⟨.mv (.v 1), none, some ((.l 9), true), []⟩,
    ⟨.indexAddr 1 (.l 11) (.l 12), none, some ((.l 9), true), []⟩,
    ⟨.load false 1 (.l 13), none, some ((.l 9), true), []⟩,
    ⟨.mv (.v 2), none, some ((.l 9), true), []⟩,
    ⟨.indexAddr 1 (.l 14) (.l 15), none, some ((.l 9), true), []⟩,
    ⟨.load false 1 (.l 16), none, some ((.l 9), true), []⟩,
    ⟨.fieldAddr 2 (.v 3), none, some ((.l 9), true), []⟩,
    ⟨.load false 1 (.l 18), none, some ((.l 9), true), []⟩,
    ⟨.bin .leq false (.l 17) (.l 19), none, some ((.l 9), true), []⟩,
    ⟨.pick (.l 9) (.l 20) (.c (.bool false)), none, none, []⟩,
    ⟨.mv (.l 21), none, none, []⟩,
    ⟨.mv (.v 1), none, some ((.l 22), true), []⟩,
    ⟨.bin .eql false (.l 23) (.c (.int .i64 0)), none, some ((.l 22), true), []⟩,
    ⟨.mv (.l 24), none, some ((.l 22), true), []⟩,
    ⟨.fieldAddr 1 (.v 3), none, some ((.l 25), false), []⟩,
    ⟨.load false 1 (.l 26), none, some ((.l 25), false), []⟩,
    ⟨.mv (.v 1), none, some ((.l 25), false), []⟩,
    ⟨.indexAddr 1 (.l 27) (.l 28), none, some ((.l 25), false), []⟩,
    ⟨.load false 1 (.l 29), none, some ((.l 25), false), []⟩,
    ⟨.pick (.l 25) (.c (.bool true)) (.l 30), none, some ((.l 22), true), []⟩,
    ⟨.pick (.l 22) (.l 31) (.c (.bool false)), none, none, []⟩,
    ⟨.mv (.l 32), some 4, none, []⟩]) (
  .ret))⟩

def X20 : XFn :=
 ⟨23, [0, 1, 4, 5, 9, 12, 22], 0, [(2, none)],
  .seq (
  .reg [⟨.mv (.c (.bool false)), some 2, none, []⟩]) (
  .seq (
  .seq (
  .reg [⟨.mv (.v 0), none, none, []⟩,
    ⟨.len false (.l 0), none, none, []⟩,
    ⟨.mv (.v 1), none, none, []⟩,
    ⟨.bin .neq false (.l 1) (.l 2), some 4, none, []⟩]) (
  .cond (.v 4) (
   .seq (
   .reg [⟨.mv (.c (.bool false)), some 2, none, []⟩]) (
   .ret)) (
   .skip))) (
  .seq (
  .seq (
  .reg [⟨.mv (.c (.int .i64 0)), some 3, none, []⟩]) (
  .block 0 (
   .loopS [0, 1, 3] 0 (
    .seq (
    .seq (
    .reg [⟨.mv (.v 3), none, none, []⟩,
      ⟨.mv (.v 1), none, none, []⟩,
      ⟨.bin .lss false (.l 0) (.l 1), some 5, none, []⟩]) (
    .cond (.v 5) (
     .skip) (
     .exit 0))) (
    .seq (
    .block 1 (
     .seq (
     .reg [⟨.mv (.v 0), none, none, []⟩,
       ⟨.mv (.v 3), none, none, []⟩,
       ⟨.indexAddr 1 (.l 0) (.l 1), none, none, []⟩,
       ⟨.load false 1 (.l 2), none, none, []⟩,
       ⟨.len false (.l 3), none, none, []⟩,
       ⟨.mv (.v 1), none, none, []⟩,
       ⟨.bin .add false (.l 5) (.c (.int .i64 1)), none, none, []⟩,
       ⟨.bin .neq false (.l 4) (.l 6), some 6, none, []⟩]) (
     .cond (.v 6) (
      .seq (
      .reg [⟨.mv (.c (.bool false)), some 2, none, []⟩]) (
      .ret)) (
      .skip)))) (
    .reg [⟨.mv (.v 3), none, none, []⟩,
      ⟨.bin .add false (.l 0) (.c (.int .i64 1)), none, none, []⟩,
      ⟨.mv (.l 1), some 3, none, []⟩])))))) (
  .seq (
  .reg [⟨.mv (.c (.bool true)), some 2, none, []⟩]) (
  .ret))))⟩
theorem c8 : compFn Try.prog 8 = some { X8 with body := strip X8.body } := by kernel_rfl
theorem c9 : compFn Try.prog 9 = some { X9 with body := strip X9.body } := by kernel_rfl
theorem c10 : compFn Try.prog 10 = some { X10 with body := strip X10.body } := by kernel_rfl
theorem c11 : compFn Try.prog 11 = some { X11 with body := strip X11.body } := by kernel_rfl
theorem c12 : compFn Try.prog 12 = some { X12 with body := strip X12.body } := by kernel_rfl
theorem c13 : compFn Try.prog 13 = some { X13 with body := strip X13.body } := by kernel_rfl
theorem c14 : compFn Try.prog 14 = some { X14 with body := strip X14.body } := by kernel_rfl
theorem c15 : compFn Try.prog 15 = some { X15 with body := strip X15.body } := by kernel_rfl
theorem c16 : compFn Try.prog 16 = some { X16 with body := strip X16.body } := by kernel_rfl
theorem c17 : compFn Try.prog 17 = some { X17 with body := strip X17.body } := by kernel_rfl
theorem c18 : compFn Try.prog 18 = some { X18 with body := strip X18.body } := by kernel_rfl
theorem c19 : compFn Try.prog 19 = some { X19 with body := strip X19.body } := by kernel_rfl
theorem c20 : compFn Try.prog 20 = some { X20 with body := strip X20.body } := by kernel_rfl
end Go.Proofs.Ytnipkbhgaljcoaa.V
