/-
  Chapter 27: strikes and sheets, as the machine takes them (printed).
-/
import Derived.Test.YtgdcogoacnghkaaProg
import Derived.KernelRfl
import Derived.Test.YtgdcogoacnghkaaMg5
namespace Go.Proofs.Ytgdcogoacnghkaa.N
set_option linter.unusedSimpArgs false
set_option linter.unusedVariables false
set_option linter.unusedSectionVars false
open Go.Proofs.Ytgdcogoacnghkaa.Am
theorem mixed : Try.prog.follows .mixedOrders = true := by kernel_rfl
def X20 : XFn :=
 ⟨26, [0, 1, 4, 5, 10, 14, 25], 0, [(2, none)],
  .seq (
  .reg [⟨.mv (.c (.bool false)), some 2, none, []⟩]) (
  .seq (
  .seq (
  .reg [⟨.mv (.v 0), none, none, []⟩,
    ⟨.len false (.l 0), none, none, []⟩,
    ⟨.mv (.v 1), none, none, []⟩,
    ⟨.len false (.l 2), none, none, []⟩,
    ⟨.bin .neq false (.l 1) (.l 3), some 4, none, []⟩]) (
  .cond (.v 4) (
   .seq (
   .reg [⟨.mv (.c (.bool false)), some 2, none, []⟩]) (
   .ret)) (
   .skip))) (
  .seq (
  .seq (
  .reg [⟨.mv (.c (.int .i64 0)), some 3, none, []⟩]) (
  .block 0 (
   .loopS [0, 1, 3] 0 (
    .seq (
    .seq (
    .reg [⟨.mv (.v 3), none, none, []⟩,
      ⟨.mv (.v 0), none, none, []⟩,
      ⟨.len false (.l 1), none, none, []⟩,
      ⟨.bin .lss false (.l 0) (.l 2), some 5, none, []⟩]) (
    .cond (.v 5) (
     .skip) (
     .exit 0))) (
    .seq (
    .block 1 (
     .seq (
     .reg [⟨.mv (.v 0), none, none, []⟩,
       ⟨.mv (.v 3), none, none, []⟩,
       ⟨.indexAddr 2 (.l 0) (.l 1), none, none, []⟩,
       ⟨.load true 2 (.l 2), none, none, []⟩,
       ⟨.mv (.v 1), none, none, []⟩,
       ⟨.mv (.v 3), none, none, []⟩,
       ⟨.indexAddr 2 (.l 4) (.l 5), none, none, []⟩,
       ⟨.load true 2 (.l 6), none, none, []⟩,
       ⟨.eqS true [1, 1] (.l 3) (.l 7), some 6, none, []⟩]) (
     .cond (.v 6) (
      .seq (
      .reg [⟨.mv (.c (.bool false)), some 2, none, []⟩]) (
      .ret)) (
      .skip)))) (
    .reg [⟨.mv (.v 3), none, none, []⟩,
      ⟨.bin .add false (.l 0) (.c (.int .i64 1)), none, none, []⟩,
      ⟨.mv (.l 1), some 3, none, []⟩])))))) (
  .seq (
  .reg [⟨.mv (.c (.bool true)), some 2, none, []⟩]) (
  .ret))))⟩

def X24 : XFn :=
 ⟨110, [0, 1, 2, 4, 5, 6, 7, 8, 9, 10, 11, 12, 13, 19, 23, 28, 37, 71, 78, 91, 96, 104], 11, [(3, none), (4, none)],
  .seq (
  .reg [⟨.box 0 (.v 0), some 2, none, []⟩,
    ⟨.mv (.c .nils), some 3, none, []⟩,
    ⟨.mv (.c (.int .i64 0)), some 4, none, []⟩]) (
  .seq (
  .seq (
  .reg [⟨.mv (.v 1), none, none, []⟩,
    ⟨.bin .lss false (.l 0) (.c (.int .i64 1)), none, none, []⟩,
    ⟨.mv (.l 1), none, none, []⟩,
    ⟨.mv (.v 1), none, some ((.l 2), false), []⟩,
    ⟨.bin .gtr false (.l 3) (.c (.int .i64 64)), none, some ((.l 2), false), []⟩,
    ⟨.pick (.l 2) (.c (.bool true)) (.l 4), some 13, none, []⟩]) (
  .cond (.v 13) (
   .seq (
   .reg [⟨.mv (.c .nils), some 3, none, []⟩,
     ⟨.mv (.c (.int .i64 1)), some 4, none, []⟩]) (
   .ret)) (
   .skip))) (
  .seq (
  .reg [⟨.load true 4 (.v 2), none, none, []⟩,
    ⟨.call 44 [(.l 0)] [(0, 0)] true, none, none, []⟩,
    ⟨.mv (.l 1), some 5, none, []⟩]) (
  .seq (
  .seq (
  .reg [⟨.mv (.v 5), none, none, []⟩,
    ⟨.un .not (.l 0), some 14, none, []⟩]) (
  .cond (.v 14) (
   .seq (
   .reg [⟨.mv (.c .nils), some 3, none, []⟩,
     ⟨.mv (.c (.int .i64 250)), some 4, none, []⟩]) (
   .ret)) (
   .skip))) (
  .seq (
  .reg [⟨.mkarr 1 3 [] [], none, none, []⟩,
    ⟨.mv (.l 0), some 6, none, []⟩]) (
  .seq (
  .seq (
  .reg [⟨.mv (.c (.int .i64 0)), some 7, none, []⟩]) (
  .block 0 (
   .loopS [1, 2, 6, 7] 11 (
    .seq (
    .seq (
    .reg [⟨.mv (.v 7), none, none, []⟩,
      ⟨.fieldAddr 1 (.v 2), none, none, []⟩,
      ⟨.load false 1 (.l 1), none, none, []⟩,
      ⟨.bin .lss false (.l 0) (.l 2), some 15, none, []⟩]) (
    .cond (.v 15) (
     .skip) (
     .exit 0))) (
    .seq (
    .block 1 (
     .seq (
     .reg [⟨.mv (.v 7), none, none, []⟩,
       ⟨.build [(.int .i64 0), .nils, .nils] [(0, 1, (.l 0))], none, none, []⟩,
       ⟨.alloc 2 [(.int .i64 0), .nils, .nils], some 8, none, []⟩,
       ⟨.store 3 (.l 2) (.l 1), none, none, []⟩,
       ⟨.mv (.c (.int .i64 0)), some 9, none, []⟩]) (
  .mat 8 (some 1) 4 1 (
  .mat 8 (some 2) 6 1 (
     .seq (
     .seq (
     .reg [⟨.mv (.c (.int .i64 0)), some 10, none, []⟩]) (
     .block 2 (
      .loopS [1, 2, 6, 7, 8, 9, 10] 11 (
       .seq (
       .seq (
       .reg [⟨.mv (.v 10), none, none, []⟩,
         ⟨.fieldAddr 0 (.v 2), none, none, []⟩,
         ⟨.load false 1 (.l 1), none, none, []⟩,
         ⟨.bin .mul false (.c (.int .i64 2)) (.l 2), none, none, []⟩,
         ⟨.bin .lss false (.l 0) (.l 3), some 16, none, []⟩]) (
       .cond (.v 16) (
        .skip) (
        .exit 2))) (
       .seq (
       .block 3 (
        .seq (
        .reg [⟨.mv (.v 10), none, none, []⟩,
          ⟨.fieldAddr 0 (.v 2), none, none, []⟩,
          ⟨.load false 1 (.l 1), none, none, []⟩,
          ⟨.bin .lss false (.l 0) (.l 2), none, none, []⟩,
          ⟨.mv (.l 3), none, none, []⟩,
          ⟨.fieldAddr 2 (.v 2), none, some ((.l 4), true), []⟩,
          ⟨.load false 1 (.l 5), none, some ((.l 4), true), []⟩,
          ⟨.mv (.v 7), none, some ((.l 4), true), []⟩,
          ⟨.indexAddr 1 (.l 6) (.l 7), none, some ((.l 4), true), []⟩,
          ⟨.load false 1 (.l 8), none, some ((.l 4), true), []⟩,
          ⟨.mv (.v 10), none, some ((.l 4), true), []⟩,
          ⟨.indexAddr 1 (.l 9) (.l 10), none, some ((.l 4), true), []⟩,
          ⟨.load false 1 (.l 11), none, some ((.l 4), true), []⟩,
          ⟨.pick (.l 4) (.l 12) (.c (.bool false)), none, none, []⟩,
          ⟨.mv (.l 13), some 11, none, []⟩]) (
        .seq (
        .reg [⟨.mv (.v 10), none, none, []⟩,
          ⟨.fieldAddr 0 (.v 2), none, none, []⟩,
          ⟨.load false 1 (.l 1), none, none, []⟩,
          ⟨.bin .geq false (.l 0) (.l 2), none, none, []⟩,
          ⟨.mv (.l 3), none, none, []⟩,
          ⟨.fieldAddr 3 (.v 2), none, some ((.l 4), true), []⟩,
          ⟨.load false 1 (.l 5), none, some ((.l 4), true), []⟩,
          ⟨.mv (.v 7), none, some ((.l 4), true), []⟩,
          ⟨.indexAddr 1 (.l 6) (.l 7), none, some ((.l 4), true), []⟩,
          ⟨.load false 1 (.l 8), none, some ((.l 4), true), []⟩,
          ⟨.mv (.v 10), none, some ((.l 4), true), []⟩,
          ⟨.fieldAddr 0 (.v 2), none, some ((.l 4), true), []⟩,
          ⟨.load false 1 (.l 11), none, some ((.l 4), true), []⟩,
          ⟨.bin .sub false (.l 10) (.l 12), none, some ((.l 4), true), []⟩,
          ⟨.indexAddr 1 (.l 9) (.l 13), none, some ((.l 4), true), []⟩,
          ⟨.load false 1 (.l 14), none, some ((.l 4), true), []⟩,
          ⟨.pick (.l 4) (.l 15) (.c (.bool false)), none, none, []⟩,
          ⟨.mv (.l 16), some 12, none, []⟩]) (
        .seq (
        .seq (
        .reg [⟨.mv (.v 11), some 17, none, []⟩]) (
        .cond (.v 17) (
         .reg [⟨.fieldAddr 1 (.v 8), none, none, []⟩,
           ⟨.load false 1 (.l 0), none, none, []⟩,
           ⟨.mv (.v 10), none, none, []⟩,
           ⟨.mkarr 3 1 [(.int .i64 0)] [(0, (.l 2))], none, none, []⟩,
           ⟨.append 4 1 8 1 (.l 1) (.l 3), none, none, []⟩,
           ⟨.fieldAddr 1 (.v 8), none, none, []⟩,
           ⟨.store 1 (.l 5) (.l 4), none, none, []⟩]) (
         .skip))) (
        .seq (
        .seq (
        .reg [⟨.mv (.v 12), some 18, none, []⟩]) (
        .cond (.v 18) (
         .reg [⟨.fieldAddr 2 (.v 8), none, none, []⟩,
           ⟨.load false 1 (.l 0), none, none, []⟩,
           ⟨.mv (.v 10), none, none, []⟩,
           ⟨.fieldAddr 0 (.v 2), none, none, []⟩,
           ⟨.load false 1 (.l 3), none, none, []⟩,
           ⟨.bin .sub false (.l 2) (.l 4), none, none, []⟩,
           ⟨.mkarr 5 1 [(.int .i64 0)] [(0, (.l 5))], none, none, []⟩,
           ⟨.append 6 1 8 1 (.l 1) (.l 6), none, none, []⟩,
           ⟨.fieldAddr 2 (.v 8), none, none, []⟩,
           ⟨.store 1 (.l 8) (.l 7), none, none, []⟩]) (
         .skip))) (
        .seq (
        .seq (
        .reg [⟨.mv (.v 11), none, none, []⟩,
          ⟨.mv (.l 0), none, none, []⟩,
          ⟨.mv (.v 12), none, some ((.l 1), false), []⟩,
          ⟨.pick (.l 1) (.c (.bool true)) (.l 2), some 19, none, []⟩]) (
        .cond (.v 19) (
         .reg [⟨.mv (.v 9), none, none, []⟩,
           ⟨.bin .add false (.l 0) (.c (.int .i64 1)), none, none, []⟩,
           ⟨.mv (.l 1), some 9, none, []⟩]) (
         .skip))) (
        .seq (
        .reg [⟨.mv (.v 9), none, none, []⟩,
          ⟨.mv (.v 1), none, none, []⟩,
          ⟨.bin .eql false (.l 0) (.l 1), some 20, none, []⟩]) (
        .cond (.v 20) (
         .seq (
         .reg [⟨.mv (.v 6), none, none, []⟩,
           ⟨.load true 3 (.v 8), none, none, []⟩,
           ⟨.mkarr 7 3 [(.agg [(.int .i64 0), .nils, .nils])] [(0, (.l 1))], none, none, []⟩,
           ⟨.append 8 3 56 1 (.l 0) (.l 2), none, none, []⟩,
           ⟨.mv (.l 3), some 6, none, []⟩]) (
         .reg [⟨.mv (.v 7), none, none, []⟩,
           ⟨.build [(.int .i64 0), .nils, .nils] [(0, 1, (.l 0))], none, none, []⟩,
           ⟨.store 3 (.v 8) (.l 1), none, none, []⟩,
           ⟨.mv (.c (.int .i64 0)), some 9, none, []⟩])) (
         .skip))))))))) (
  .mat 8 (some 2) 6 1 (
  .mat 8 (some 1) 4 1 (
       .reg [⟨.mv (.v 10), none, none, []⟩,
         ⟨.bin .add false (.l 0) (.c (.int .i64 1)), none, none, []⟩,
         ⟨.mv (.l 1), some 10, none, []⟩])))))))) (
     .seq (
     .reg [⟨.mv (.v 9), none, none, []⟩,
       ⟨.bin .gtr false (.l 0) (.c (.int .i64 0)), some 21, none, []⟩]) (
     .cond (.v 21) (
      .reg [⟨.mv (.v 6), none, none, []⟩,
        ⟨.load true 3 (.v 8), none, none, []⟩,
        ⟨.mkarr 9 3 [(.agg [(.int .i64 0), .nils, .nils])] [(0, (.l 1))], none, none, []⟩,
        ⟨.append 10 3 56 1 (.l 0) (.l 2), none, none, []⟩,
        ⟨.mv (.l 3), some 6, none, []⟩]) (
      .skip)))))))) (
    .reg [⟨.mv (.v 7), none, none, []⟩,
      ⟨.bin .add false (.l 0) (.c (.int .i64 1)), none, none, []⟩,
      ⟨.mv (.l 1), some 7, none, []⟩])))))) (
  .seq (
  .reg [⟨.mv (.v 6), none, none, []⟩,
    ⟨.mv (.l 0), some 3, none, []⟩,
    ⟨.mv (.c (.int .i64 0)), some 4, none, []⟩]) (
  .ret)))))))⟩

def X25 : XFn :=
 ⟨27, [0, 1, 2, 3, 6], 3, [(4, none)],
  .seq (
  .reg [⟨.box 0 (.v 0), some 3, none, []⟩,
    ⟨.mv (.c (.bool false)), some 4, none, []⟩]) (
  .seq (
  .reg [⟨.fieldAddr 0 (.v 3), none, none, []⟩,
    ⟨.load false 1 (.l 0), none, none, []⟩,
    ⟨.mv (.v 1), none, none, []⟩,
    ⟨.bin .eql false (.l 1) (.l 2), none, none, []⟩,
    ⟨.mv (.l 3), none, none, []⟩,
    ⟨.fieldAddr 1 (.v 3), none, some ((.l 4), true), []⟩,
    ⟨.load false 1 (.l 5), none, some ((.l 4), true), []⟩,
    ⟨.mv (.v 2), none, some ((.l 4), true), []⟩,
    ⟨.bin .eql false (.l 6) (.l 7), none, some ((.l 4), true), []⟩,
    ⟨.pick (.l 4) (.l 8) (.c (.bool false)), none, none, []⟩,
    ⟨.mv (.l 9), none, none, []⟩,
    ⟨.load true 4 (.v 3), none, some ((.l 10), true), []⟩,
    ⟨.call 40 [(.l 11)] [(0, 0), (0, 0), (1, 1)] true, none, some ((.l 10), true), []⟩,
    ⟨.call 45 [(.l 12)] [(0, 0)] true, none, some ((.l 10), true), []⟩,
    ⟨.pick (.l 10) (.l 13) (.c (.bool false)), none, none, []⟩,
    ⟨.mv (.l 14), none, none, []⟩,
    ⟨.load true 4 (.v 3), none, some ((.l 15), true), []⟩,
    ⟨.call 41 [(.l 16)] [(0, 0), (0, 0), (2, 1)] true, none, some ((.l 15), true), []⟩,
    ⟨.call 45 [(.l 17)] [(0, 0)] true, none, some ((.l 15), true), []⟩,
    ⟨.pick (.l 15) (.l 18) (.c (.bool false)), none, none, []⟩,
    ⟨.mv (.l 19), some 4, none, []⟩]) (
  .ret))⟩

def X26 : XFn :=
 ⟨16, [0, 1, 4], 3, [(2, some (true, 4))],
  .seq (
  .reg [⟨.alloc 0 [(.int .i64 0), (.int .i64 0), .nils, .nils], some 2, none, []⟩]) (
  .seq (
  .reg [⟨.mv (.v 0), none, none, []⟩,
    ⟨.mv (.v 1), none, none, []⟩,
    ⟨.mv (.v 0), none, none, []⟩,
    ⟨.mv (.v 1), none, none, []⟩,
    ⟨.call 31 [(.l 2), (.l 3)] [(0, 0), (0, 0), (1, 1)] true, none, none, []⟩,
    ⟨.field false 2 1 (.l 4), none, none, []⟩,
    ⟨.mv (.v 0), none, none, []⟩,
    ⟨.mv (.v 1), none, none, []⟩,
    ⟨.call 31 [(.l 6), (.l 7)] [(0, 0), (0, 0), (2, 1)] true, none, none, []⟩,
    ⟨.field false 2 1 (.l 8), none, none, []⟩,
    ⟨.build [(.int .i64 0), (.int .i64 0), .nils, .nils] [(0, 1, (.l 0)), (1, 1, (.l 1)), (2, 1, (.l 5)), (3, 1, (.l 9))], none, none, []⟩,
    ⟨.store 4 (.v 2) (.l 10), none, none, []⟩]) (
  .ret))⟩

def X28 : XFn :=
 ⟨24, [0, 1, 2, 3, 4], 2, [(4, none)],
  .seq (
  .reg [⟨.box 0 (.v 0), some 2, none, []⟩,
    ⟨.box 1 (.v 1), some 3, none, []⟩,
    ⟨.mv (.c (.bool false)), some 4, none, []⟩]) (
  .seq (
  .reg [⟨.fieldAddr 1 (.v 2), none, none, []⟩,
    ⟨.load false 1 (.l 0), none, none, []⟩,
    ⟨.fieldAddr 1 (.v 3), none, none, []⟩,
    ⟨.load false 1 (.l 2), none, none, []⟩,
    ⟨.bin .lss false (.l 1) (.l 3), none, none, []⟩,
    ⟨.mv (.l 4), none, none, []⟩,
    ⟨.fieldAddr 1 (.v 2), none, some ((.l 5), false), []⟩,
    ⟨.load false 1 (.l 6), none, some ((.l 5), false), []⟩,
    ⟨.fieldAddr 1 (.v 3), none, some ((.l 5), false), []⟩,
    ⟨.load false 1 (.l 8), none, some ((.l 5), false), []⟩,
    ⟨.bin .eql false (.l 7) (.l 9), none, some ((.l 5), false), []⟩,
    ⟨.mv (.l 10), none, some ((.l 5), false), []⟩,
    ⟨.fieldAddr 0 (.v 2), none, some ((.l 11), true), []⟩,
    ⟨.load false 1 (.l 12), none, some ((.l 11), true), []⟩,
    ⟨.fieldAddr 0 (.v 3), none, some ((.l 11), true), []⟩,
    ⟨.load false 1 (.l 14), none, some ((.l 11), true), []⟩,
    ⟨.bin .lss false (.l 13) (.l 15), none, some ((.l 11), true), []⟩,
    ⟨.pick (.l 11) (.l 16) (.c (.bool false)), none, some ((.l 5), false), []⟩,
    ⟨.pick (.l 5) (.c (.bool true)) (.l 17), none, none, []⟩,
    ⟨.mv (.l 18), some 4, none, []⟩]) (
  .ret))⟩

def X30 : XFn :=
 ⟨69, [0, 1, 2, 4, 5, 6, 7, 8, 17, 23, 44, 52], 4, [(3, some (true, 3))],
  .seq (
  .reg [⟨.box 0 (.v 0), some 2, none, []⟩,
    ⟨.alloc 1 [(.int .i64 0), (.int .i64 0), .nils], some 3, none, []⟩]) (
  .seq (
  .reg [⟨.fieldAddr 0 (.v 2), none, none, []⟩,
    ⟨.load false 1 (.l 0), none, none, []⟩,
    ⟨.fieldAddr 1 (.v 2), none, none, []⟩,
    ⟨.load false 1 (.l 2), none, none, []⟩,
    ⟨.call 31 [(.l 1), (.l 3)] [(0, 0), (0, 0), (2, 1)] true, none, none, []⟩,
    ⟨.alloc 3 [(.int .i64 0), (.int .i64 0), .nils], some 4, none, []⟩,
    ⟨.store 3 (.l 5) (.l 4), none, none, []⟩]) (
  .seq (
  .seq (
  .reg [⟨.mv (.c (.int .i64 0)), some 5, none, []⟩]) (
  .block 0 (
   .loopS [1, 2, 3, 4, 5] 4 (
    .seq (
    .seq (
    .reg [⟨.mv (.v 5), none, none, []⟩,
      ⟨.fieldAddr 1 (.v 2), none, none, []⟩,
      ⟨.load false 1 (.l 1), none, none, []⟩,
      ⟨.bin .lss false (.l 0) (.l 2), some 8, none, []⟩]) (
    .cond (.v 8) (
     .skip) (
     .exit 0))) (
    .seq (
    .block 1 (
     .seq (
     .reg [⟨.mv (.c (.int .i64 0)), some 6, none, []⟩]) (
     .block 2 (
      .loopS [1, 2, 3, 4, 5, 6] 4 (
       .seq (
       .seq (
       .reg [⟨.mv (.v 6), none, none, []⟩,
         ⟨.fieldAddr 0 (.v 2), none, none, []⟩,
         ⟨.load false 1 (.l 1), none, none, []⟩,
         ⟨.bin .lss false (.l 0) (.l 2), some 9, none, []⟩]) (
       .cond (.v 9) (
        .skip) (
        .exit 2))) (
       .seq (
       .block 3 (
        .reg [⟨.fieldAddr 2 (.v 4), none, none, []⟩,
          ⟨.load false 1 (.l 0), none, none, []⟩,
          ⟨.mv (.v 5), none, none, []⟩,
          ⟨.indexAddr 1 (.l 1) (.l 2), none, none, []⟩,
          ⟨.load false 1 (.l 3), none, none, []⟩,
          ⟨.mv (.v 6), none, none, []⟩,
          ⟨.fieldAddr 2 (.v 2), none, none, []⟩,
          ⟨.load false 1 (.l 6), none, none, []⟩,
          ⟨.mv (.v 5), none, none, []⟩,
          ⟨.indexAddr 1 (.l 7) (.l 8), none, none, []⟩,
          ⟨.load false 1 (.l 9), none, none, []⟩,
          ⟨.mv (.v 6), none, none, []⟩,
          ⟨.indexAddr 1 (.l 10) (.l 11), none, none, []⟩,
          ⟨.load false 1 (.l 12), none, none, []⟩,
          ⟨.indexAddr 1 (.l 4) (.l 5), none, none, []⟩,
          ⟨.store 1 (.l 14) (.l 13), none, none, []⟩])) (
       .reg [⟨.mv (.v 6), none, none, []⟩,
         ⟨.bin .add false (.l 0) (.c (.int .i64 1)), none, none, []⟩,
         ⟨.mv (.l 1), some 6, none, []⟩]))))))) (
    .reg [⟨.mv (.v 5), none, none, []⟩,
      ⟨.bin .add false (.l 0) (.c (.int .i64 1)), none, none, []⟩,
      ⟨.mv (.l 1), some 5, none, []⟩])))))) (
  .seq (
  .seq (
  .reg [⟨.mv (.c (.int .i64 0)), some 7, none, []⟩]) (
  .block 4 (
   .loopS [1, 2, 3, 4, 7] 4 (
    .seq (
    .seq (
    .reg [⟨.mv (.v 7), none, none, []⟩,
      ⟨.mv (.v 1), none, none, []⟩,
      ⟨.len false (.l 1), none, none, []⟩,
      ⟨.bin .lss false (.l 0) (.l 2), some 10, none, []⟩]) (
    .cond (.v 10) (
     .skip) (
     .exit 4))) (
    .seq (
    .block 5 (
     .seq (
     .reg [⟨.load true 3 (.v 2), none, none, []⟩,
       ⟨.mv (.v 1), none, none, []⟩,
       ⟨.mv (.v 7), none, none, []⟩,
       ⟨.indexAddr 2 (.l 1) (.l 2), none, none, []⟩,
       ⟨.load true 2 (.l 3), none, none, []⟩,
       ⟨.call 46 [(.l 0), (.l 4)] [(0, 0)] false, some 11, none, []⟩]) (
     .cond (.v 11) (
      .reg [⟨.fieldAddr 2 (.v 4), none, none, []⟩,
        ⟨.load false 1 (.l 0), none, none, []⟩,
        ⟨.mv (.v 1), none, none, []⟩,
        ⟨.mv (.v 7), none, none, []⟩,
        ⟨.indexAddr 2 (.l 2) (.l 3), none, none, []⟩,
        ⟨.fieldAddr 1 (.l 4), none, none, []⟩,
        ⟨.load false 1 (.l 5), none, none, []⟩,
        ⟨.indexAddr 1 (.l 1) (.l 6), none, none, []⟩,
        ⟨.load false 1 (.l 7), none, none, []⟩,
        ⟨.mv (.v 1), none, none, []⟩,
        ⟨.mv (.v 7), none, none, []⟩,
        ⟨.indexAddr 2 (.l 9) (.l 10), none, none, []⟩,
        ⟨.fieldAddr 0 (.l 11), none, none, []⟩,
        ⟨.load false 1 (.l 12), none, none, []⟩,
        ⟨.indexAddr 1 (.l 8) (.l 13), none, none, []⟩,
        ⟨.store 1 (.l 14) (.c (.bool true)), none, none, []⟩]) (
      .skip)))) (
    .reg [⟨.mv (.v 7), none, none, []⟩,
      ⟨.bin .add false (.l 0) (.c (.int .i64 1)), none, none, []⟩,
      ⟨.mv (.l 1), some 7, none, []⟩])))))) (
  .seq (
  .reg [⟨.load true 3 (.v 4), none, none, []⟩,
    ⟨.store 3 (.v 3) (.l 0), none, none, []⟩]) (
  .ret)))))⟩

def X31 : XFn :=
 ⟨29, [0, 1, 4, 5, 6, 17], 5, [(2, some (true, 3))],
  .seq (
  .reg [⟨.alloc 0 [(.int .i64 0), (.int .i64 0), .nils], some 2, none, []⟩]) (
  .seq (
  .reg [⟨.mv (.v 0), none, none, []⟩,
    ⟨.minmax true [(.l 0), (.c (.int .i64 0))], none, none, []⟩,
    ⟨.minmax false [(.l 1), (.c (.int .i64 200))], none, none, []⟩,
    ⟨.mv (.v 1), none, none, []⟩,
    ⟨.minmax true [(.l 3), (.c (.int .i64 0))], none, none, []⟩,
    ⟨.minmax false [(.l 4), (.c (.int .i64 200))], none, none, []⟩,
    ⟨.build [(.int .i64 0), (.int .i64 0), .nils] [(0, 1, (.l 2)), (1, 1, (.l 5))], none, none, []⟩,
    ⟨.alloc 1 [(.int .i64 0), (.int .i64 0), .nils], some 3, none, []⟩,
    ⟨.store 3 (.l 7) (.l 6), none, none, []⟩]) (
  .mat 3 (some 2) 4 1 (
  .seq (
  .seq (
  .reg [⟨.mv (.c (.int .i64 0)), some 4, none, []⟩]) (
  .block 0 (
   .loopS [2, 3, 4] 5 (
    .seq (
    .seq (
    .reg [⟨.mv (.v 4), none, none, []⟩,
      ⟨.fieldAddr 1 (.v 3), none, none, []⟩,
      ⟨.load false 1 (.l 1), none, none, []⟩,
      ⟨.bin .lss false (.l 0) (.l 2), some 5, none, []⟩]) (
    .cond (.v 5) (
     .skip) (
     .exit 0))) (
    .seq (
    .block 1 (
     .reg [⟨.fieldAddr 2 (.v 3), none, none, [2, 3]⟩,
       ⟨.load false 1 (.l 0), none, none, [2, 3]⟩,
       ⟨.fieldAddr 0 (.v 3), none, none, []⟩,
       ⟨.load false 1 (.l 2), none, none, []⟩,
       ⟨.makeSlice 2 1 1 (.bool false) (.l 3) (.l 3), none, none, []⟩,
       ⟨.mkarr 3 1 [.nils] [(0, (.l 4))], none, none, []⟩,
       ⟨.append 4 1 24 1 (.l 1) (.l 5), none, none, []⟩,
       ⟨.fieldAddr 2 (.v 3), none, none, []⟩,
       ⟨.store 1 (.l 7) (.l 6), none, none, []⟩])) (
    .reg [⟨.mv (.v 4), none, none, []⟩,
      ⟨.bin .add false (.l 0) (.c (.int .i64 1)), none, none, []⟩,
      ⟨.mv (.l 1), some 4, none, []⟩])))))) (
  .seq (
  .reg [⟨.load true 3 (.v 3), none, none, []⟩,
    ⟨.store 3 (.v 2) (.l 0), none, none, []⟩]) (
  .ret)))))⟩

def X32 : XFn :=
 ⟨50, [0, 1, 2, 4, 5, 6, 7, 8, 14, 17, 19, 20, 21, 38, 39], 8, [(3, none), (4, none)],
  .seq (
  .reg [⟨.box 0 (.v 0), some 2, none, []⟩,
    ⟨.mv (.c .nils), some 3, none, []⟩,
    ⟨.mv (.c (.int .i64 0)), some 4, none, []⟩]) (
  .seq (
  .seq (
  .reg [⟨.mv (.v 1), none, none, []⟩,
    ⟨.bin .lss false (.l 0) (.c (.int .i64 1)), none, none, []⟩,
    ⟨.mv (.l 1), none, none, []⟩,
    ⟨.mv (.v 1), none, some ((.l 2), false), []⟩,
    ⟨.bin .gtr false (.l 3) (.c (.int .i64 64)), none, some ((.l 2), false), []⟩,
    ⟨.pick (.l 2) (.c (.bool true)) (.l 4), some 8, none, []⟩]) (
  .cond (.v 8) (
   .seq (
   .reg [⟨.mv (.c .nils), some 3, none, []⟩,
     ⟨.mv (.c (.int .i64 1)), some 4, none, []⟩]) (
   .ret)) (
   .skip))) (
  .seq (
  .seq (
  .reg [⟨.load true 4 (.v 2), none, none, []⟩,
    ⟨.call 43 [(.l 0)] [(0, 0)] true, none, none, []⟩,
    ⟨.un .not (.l 1), some 9, none, []⟩]) (
  .cond (.v 9) (
   .seq (
   .reg [⟨.mv (.c .nils), some 3, none, []⟩,
     ⟨.mv (.c (.int .i64 250)), some 4, none, []⟩]) (
   .ret)) (
   .skip))) (
  .seq (
  .reg [⟨.alloc 1 [.nils], some 5, none, []⟩]) (
  .mat 5 (some 0) 7 3 (
  .seq (
  .seq (
  .reg [⟨.fieldAddr 1 (.v 2), none, none, []⟩,
    ⟨.load false 1 (.l 0), some 10, none, []⟩,
    ⟨.mv (.c (.int .i64 0)), some 11, none, []⟩]) (
  .block 0 (
   .loopS [1, 2, 5, 10, 11] 8 (
    .seq (
    .reg [⟨.bin .lss false (.v 11) (.v 10), some 12, none, []⟩]) (
    .seq (
    .cond (.v 12) (
     .skip) (
     .exit 0)) (
    .seq (
    .block 1 (
     .seq (
     .reg [⟨.mv (.v 11), none, none, []⟩,
       ⟨.alloc 2 [(.int .i64 0)], some 6, none, []⟩,
       ⟨.store 1 (.l 1) (.l 0), none, none, []⟩]) (
     .seq (
     .reg [⟨.fieldAddr 0 (.v 2), none, none, []⟩,
       ⟨.load false 1 (.l 0), none, none, []⟩,
       ⟨.fieldAddr 2 (.v 2), none, none, []⟩,
       ⟨.load false 1 (.l 2), none, none, []⟩,
       ⟨.load false 1 (.v 6), none, none, []⟩,
       ⟨.indexAddr 1 (.l 3) (.l 4), none, none, []⟩,
       ⟨.load false 1 (.l 5), none, none, []⟩,
       ⟨.fieldAddr 3 (.v 2), none, none, []⟩,
       ⟨.load false 1 (.l 7), none, none, []⟩,
       ⟨.load false 1 (.v 6), none, none, []⟩,
       ⟨.indexAddr 1 (.l 8) (.l 9), none, none, []⟩,
       ⟨.load false 1 (.l 10), none, none, []⟩,
       ⟨.lit 1 [.nils, .nils] [(0, (.l 6)), (1, (.l 11))], none, none, []⟩,
       ⟨.call 48 [(.l 1), (.l 12)] [(3, 1)] false, none, none, []⟩,
       ⟨.mv (.v 1), none, none, [3]⟩,
       ⟨.callv (.c (.fn (.func 47) [] [])) [(.l 13), (.l 14)], some 13, none, []⟩]) (
     .block 2 (
      .rfor (.v 13) [(some 14)] (
       .reg [⟨.mv (.v 14), some 7, none, []⟩]) (
       .block 3 (
  .frz [(10, false)] (
        .reg [⟨.load false 1 (.v 5), none, none, [4, 5, 6]⟩,
          ⟨.load false 1 (.v 6), none, none, []⟩,
          ⟨.fieldAddr 0 (.v 2), none, none, []⟩,
          ⟨.load false 1 (.l 2), none, none, []⟩,
          ⟨.mv (.v 7), none, none, []⟩,
          ⟨.call 49 [(.l 1), (.l 3), (.l 4)] [(0, 0), (4, 1), (5, 1)] false, none, none, []⟩,
          ⟨.mkarr 6 3 [(.agg [(.int .i64 0), .nils, .nils])] [(0, (.l 5))], none, none, []⟩,
          ⟨.append 7 3 56 1 (.l 0) (.l 6), none, none, []⟩,
          ⟨.store 1 (.v 5) (.l 7), none, none, []⟩])))))))) (
  .frz [(10, false)] (
    .reg [⟨.bin .add false (.v 11) (.c (.int .i64 1)), none, none, []⟩,
      ⟨.mv (.l 0), some 11, none, []⟩])))))))) (
  .seq (
  .reg [⟨.load false 1 (.v 5), none, none, []⟩,
    ⟨.mv (.l 0), some 3, none, []⟩,
    ⟨.mv (.c (.int .i64 0)), some 4, none, []⟩]) (
  .ret)))))))⟩

def X33 : XFn :=
 ⟨104, [0, 1, 2, 6, 7, 8, 9, 10, 11, 25, 38, 40, 41, 42, 43, 69], 7, [(3, some (true, 4)), (4, none), (5, none)],
  .seq (
  .reg [⟨.alloc 0 [(.int .i64 0), (.int .i64 0), .nils, .nils], some 3, none, []⟩,
    ⟨.mv (.c (.int .i64 0)), some 4, none, []⟩,
    ⟨.mv (.c (.int .i64 0)), some 5, none, []⟩]) (
  .seq (
  .seq (
  .reg [⟨.mv (.v 0), none, none, []⟩,
    ⟨.bin .lss false (.l 0) (.c (.int .i64 48)), none, none, []⟩,
    ⟨.mv (.l 1), none, none, []⟩,
    ⟨.mv (.v 0), none, some ((.l 2), false), []⟩,
    ⟨.bin .gtr false (.l 3) (.c (.int .i64 120)), none, some ((.l 2), false), []⟩,
    ⟨.pick (.l 2) (.c (.bool true)) (.l 4), none, none, []⟩,
    ⟨.mv (.l 5), none, none, []⟩,
    ⟨.mv (.v 1), none, some ((.l 6), false), []⟩,
    ⟨.bin .lss false (.l 7) (.c (.int .i64 12)), none, some ((.l 6), false), []⟩,
    ⟨.pick (.l 6) (.c (.bool true)) (.l 8), none, none, []⟩,
    ⟨.mv (.l 9), none, none, []⟩,
    ⟨.mv (.v 1), none, some ((.l 10), false), []⟩,
    ⟨.bin .gtr false (.l 11) (.c (.int .i64 120)), none, some ((.l 10), false), []⟩,
    ⟨.pick (.l 10) (.c (.bool true)) (.l 12), some 9, none, []⟩]) (
  .cond (.v 9) (
   .seq (
   .reg [⟨.build [(.int .i64 0), (.int .i64 0), .nils, .nils] [], none, none, []⟩,
     ⟨.store 4 (.v 3) (.l 0), none, none, []⟩,
     ⟨.mv (.c (.int .i64 0)), some 4, none, []⟩,
     ⟨.mv (.c (.int .i64 1)), some 5, none, []⟩]) (
  .mat 3 (some 2) 5 1 (
  .mat 3 (some 3) 6 1 (
   .ret)))) (
   .skip))) (
  .seq (
  .reg [⟨.mv (.v 0), none, none, []⟩,
    ⟨.mv (.v 1), none, none, []⟩,
    ⟨.mv (.v 0), none, none, []⟩,
    ⟨.mv (.v 1), none, none, []⟩,
    ⟨.call 50 [(.l 2), (.l 3)] [(1, 1)] true, none, none, []⟩,
    ⟨.mv (.v 0), none, none, []⟩,
    ⟨.mv (.v 1), none, none, []⟩,
    ⟨.call 50 [(.l 5), (.l 6)] [(2, 1)] true, none, none, []⟩,
    ⟨.build [(.int .i64 0), (.int .i64 0), .nils, .nils] [(0, 1, (.l 0)), (1, 1, (.l 1)), (2, 1, (.l 4)), (3, 1, (.l 7))], none, none, []⟩,
    ⟨.alloc 3 [(.int .i64 0), (.int .i64 0), .nils, .nils], some 6, none, []⟩,
    ⟨.store 4 (.l 9) (.l 8), none, none, []⟩]) (
  .seq (
  .seq (
  .reg [⟨.load true 4 (.v 6), none, none, []⟩,
    ⟨.call 43 [(.l 0)] [(0, 0)] true, none, none, []⟩,
    ⟨.un .not (.l 1), some 10, none, []⟩]) (
  .cond (.v 10) (
   .seq (
   .reg [⟨.build [(.int .i64 0), (.int .i64 0), .nils, .nils] [], none, none, []⟩,
     ⟨.store 4 (.v 3) (.l 0), none, none, []⟩,
     ⟨.mv (.c (.int .i64 0)), some 4, none, []⟩,
     ⟨.mv (.c (.int .i64 1)), some 5, none, []⟩]) (
  .mat 3 (some 2) 5 1 (
  .mat 3 (some 3) 6 1 (
   .ret)))) (
   .skip))) (
  .seq (
  .seq (
  .reg [⟨.mv (.v 2), some 11, none, []⟩,
    ⟨.len false (.l 0), some 12, none, []⟩,
    ⟨.mv (.c (.int .i64 0)), some 13, none, []⟩]) (
  .block 0 (
   .loopS [0, 1, 2, 3, 6, 11, 12, 13] 7 (
    .seq (
    .reg [⟨.bin .lss false (.v 13) (.v 12), some 14, none, []⟩]) (
    .seq (
    .cond (.v 14) (
     .skip) (
     .exit 0)) (
    .seq (
    .block 1 (
     .seq (
     .reg [⟨.mv (.v 13), none, none, []⟩,
       ⟨.indexAddr 3 (.v 11) (.v 13), none, none, []⟩,
       ⟨.load true 3 (.l 1), none, none, []⟩,
       ⟨.alloc 4 [(.int .i64 0), .nils, .nils], some 8, none, []⟩,
       ⟨.mv (.l 0), some 7, none, []⟩,
       ⟨.store 3 (.l 3) (.l 2), none, none, []⟩]) (
     .seq (
     .seq (
     .reg [⟨.fieldAddr 0 (.v 8), none, none, []⟩,
       ⟨.load false 1 (.l 0), none, none, []⟩,
       ⟨.bin .lss false (.l 1) (.c (.int .i64 0)), none, none, []⟩,
       ⟨.mv (.l 2), none, none, []⟩,
       ⟨.fieldAddr 0 (.v 8), none, some ((.l 3), false), []⟩,
       ⟨.load false 1 (.l 4), none, some ((.l 3), false), []⟩,
       ⟨.mv (.v 1), none, some ((.l 3), false), []⟩,
       ⟨.bin .geq false (.l 5) (.l 6), none, some ((.l 3), false), []⟩,
       ⟨.pick (.l 3) (.c (.bool true)) (.l 7), none, none, []⟩,
       ⟨.mv (.l 8), none, none, []⟩,
       ⟨.fieldAddr 1 (.v 8), none, some ((.l 9), false), []⟩,
       ⟨.load false 1 (.l 10), none, some ((.l 9), false), []⟩,
       ⟨.mv (.v 0), none, some ((.l 9), false), []⟩,
       ⟨.call 51 [(.l 11), (.l 12)] [(0, 0)] true, none, some ((.l 9), false), []⟩,
       ⟨.un .not (.l 13), none, some ((.l 9), false), []⟩,
       ⟨.pick (.l 9) (.c (.bool true)) (.l 14), none, none, []⟩,
       ⟨.mv (.l 15), none, none, []⟩,
       ⟨.fieldAddr 2 (.v 8), none, some ((.l 16), false), []⟩,
       ⟨.load false 1 (.l 17), none, some ((.l 16), false), []⟩,
       ⟨.mv (.v 0), none, some ((.l 16), false), []⟩,
       ⟨.call 51 [(.l 18), (.l 19)] [(0, 0)] true, none, some ((.l 16), false), []⟩,
       ⟨.un .not (.l 20), none, some ((.l 16), false), []⟩,
       ⟨.pick (.l 16) (.c (.bool true)) (.l 21), some 15, none, []⟩]) (
     .cond (.v 15) (
      .seq (
      .reg [⟨.build [(.int .i64 0), (.int .i64 0), .nils, .nils] [], none, none, []⟩,
        ⟨.mv (.v 7), none, none, []⟩,
        ⟨.store 4 (.v 3) (.l 0), none, none, []⟩,
        ⟨.mv (.l 1), some 4, none, []⟩,
        ⟨.mv (.c (.int .i64 270)), some 5, none, []⟩]) (
  .mat 3 (some 2) 5 1 (
  .mat 3 (some 3) 6 1 (
      .ret)))) (
      .skip))) (
     .seq (
     .reg [⟨.fieldAddr 2 (.v 6), none, none, [5]⟩,
       ⟨.load false 1 (.l 0), none, none, [5]⟩,
       ⟨.fieldAddr 0 (.v 8), none, none, [5]⟩,
       ⟨.load false 1 (.l 2), none, none, [5]⟩,
       ⟨.fieldAddr 2 (.v 6), none, none, []⟩,
       ⟨.load false 1 (.l 4), none, none, []⟩,
       ⟨.fieldAddr 0 (.v 8), none, none, []⟩,
       ⟨.load false 1 (.l 6), none, none, []⟩,
       ⟨.indexAddr 1 (.l 5) (.l 7), none, none, []⟩,
       ⟨.load false 1 (.l 8), none, none, []⟩,
       ⟨.fieldAddr 1 (.v 8), none, none, []⟩,
       ⟨.load false 1 (.l 10), none, none, []⟩,
       ⟨.call 52 [(.l 9), (.l 11)] [(5, 1)] false, none, none, []⟩,
       ⟨.indexAddr 1 (.l 1) (.l 3), none, none, []⟩,
       ⟨.store 1 (.l 13) (.l 12), none, none, []⟩]) (
     .reg [⟨.fieldAddr 3 (.v 6), none, none, [6]⟩,
       ⟨.load false 1 (.l 0), none, none, [6]⟩,
       ⟨.fieldAddr 0 (.v 8), none, none, [6]⟩,
       ⟨.load false 1 (.l 2), none, none, [6]⟩,
       ⟨.fieldAddr 3 (.v 6), none, none, []⟩,
       ⟨.load false 1 (.l 4), none, none, []⟩,
       ⟨.fieldAddr 0 (.v 8), none, none, []⟩,
       ⟨.load false 1 (.l 6), none, none, []⟩,
       ⟨.indexAddr 1 (.l 5) (.l 7), none, none, []⟩,
       ⟨.load false 1 (.l 8), none, none, []⟩,
       ⟨.fieldAddr 2 (.v 8), none, none, []⟩,
       ⟨.load false 1 (.l 10), none, none, []⟩,
       ⟨.call 52 [(.l 9), (.l 11)] [(6, 1)] false, none, none, []⟩,
       ⟨.indexAddr 1 (.l 1) (.l 3), none, none, []⟩,
       ⟨.store 1 (.l 13) (.l 12), none, none, []⟩]))))) (
    .reg [⟨.bin .add false (.v 13) (.c (.int .i64 1)), none, none, []⟩,
      ⟨.mv (.l 0), some 13, none, []⟩]))))))) (
  .seq (
  .reg [⟨.load true 4 (.v 6), none, none, []⟩,
    ⟨.mv (.v 2), none, none, []⟩,
    ⟨.len false (.l 1), none, none, []⟩,
    ⟨.store 4 (.v 3) (.l 0), none, none, []⟩,
    ⟨.mv (.l 2), some 4, none, []⟩,
    ⟨.mv (.c (.int .i64 0)), some 5, none, []⟩]) (
  .ret))))))⟩

def X34 : XFn :=
 ⟨8, [0, 2, 4], 2, [(1, none)],
  .seq (
  .reg [⟨.mv (.c .nils), some 1, none, []⟩]) (
  .seq (
  .seq (
  .reg [⟨.mv (.v 0), none, none, []⟩,
    ⟨.eqNil false (.l 0) (.c .nils), some 2, none, []⟩]) (
  .cond (.v 2) (
   .seq (
   .reg [⟨.mv (.c .nils), some 1, none, []⟩]) (
   .ret)) (
   .skip))) (
  .seq (
  .reg [⟨.mkarr 0 1 [] [], none, none, []⟩,
    ⟨.mv (.v 0), none, none, []⟩,
    ⟨.append 0 1 8 2 (.l 0) (.l 1), none, none, []⟩,
    ⟨.mv (.l 2), some 1, none, []⟩]) (
  .ret)))⟩

def X37 : XFn :=
 ⟨18, [0, 1, 4, 5, 9, 17], 0, [(2, none)],
  .seq (
  .reg [⟨.mv (.c (.bool false)), some 2, none, []⟩]) (
  .seq (
  .seq (
  .reg [⟨.mv (.c (.int .i64 0)), some 3, none, []⟩]) (
  .block 0 (
   .loopS [0, 1, 3] 0 (
    .seq (
    .seq (
    .reg [⟨.mv (.v 3), none, none, []⟩,
      ⟨.mv (.v 0), none, none, []⟩,
      ⟨.len false (.l 1), none, none, []⟩,
      ⟨.bin .lss false (.l 0) (.l 2), some 4, none, []⟩]) (
    .cond (.v 4) (
     .skip) (
     .exit 0))) (
    .seq (
    .block 1 (
     .seq (
     .reg [⟨.mv (.v 0), none, none, []⟩,
       ⟨.mv (.v 3), none, none, []⟩,
       ⟨.indexAddr 1 (.l 0) (.l 1), none, none, []⟩,
       ⟨.load false 1 (.l 2), none, none, []⟩,
       ⟨.mv (.v 1), none, none, []⟩,
       ⟨.bin .eql false (.l 3) (.l 4), some 5, none, []⟩]) (
     .cond (.v 5) (
      .seq (
      .reg [⟨.mv (.c (.bool true)), some 2, none, []⟩]) (
      .ret)) (
      .skip)))) (
    .reg [⟨.mv (.v 3), none, none, []⟩,
      ⟨.bin .add false (.l 0) (.c (.int .i64 1)), none, none, []⟩,
      ⟨.mv (.l 1), some 3, none, []⟩])))))) (
  .seq (
  .reg [⟨.mv (.c (.bool false)), some 2, none, []⟩]) (
  .ret)))⟩

def X39 : XFn :=
 ⟨75, [0, 1, 2, 3, 4, 5, 6, 27, 32, 47, 55, 74], 2, [(4, none)],
  .seq (
  .reg [⟨.box 0 (.v 0), some 2, none, []⟩,
    ⟨.box 1 (.v 1), some 3, none, []⟩,
    ⟨.mv (.c (.bool false)), some 4, none, []⟩]) (
  .seq (
  .seq (
  .reg [⟨.fieldAddr 0 (.v 2), none, none, []⟩,
    ⟨.load false 1 (.l 0), none, none, []⟩,
    ⟨.fieldAddr 0 (.v 3), none, none, []⟩,
    ⟨.load false 1 (.l 2), none, none, []⟩,
    ⟨.bin .neq false (.l 1) (.l 3), none, none, []⟩,
    ⟨.mv (.l 4), none, none, []⟩,
    ⟨.fieldAddr 1 (.v 2), none, some ((.l 5), false), []⟩,
    ⟨.load false 1 (.l 6), none, some ((.l 5), false), []⟩,
    ⟨.fieldAddr 1 (.v 3), none, some ((.l 5), false), []⟩,
    ⟨.load false 1 (.l 8), none, some ((.l 5), false), []⟩,
    ⟨.bin .neq false (.l 7) (.l 9), none, some ((.l 5), false), []⟩,
    ⟨.pick (.l 5) (.c (.bool true)) (.l 10), none, none, []⟩,
    ⟨.mv (.l 11), none, none, []⟩,
    ⟨.fieldAddr 2 (.v 2), none, some ((.l 12), false), []⟩,
    ⟨.load false 1 (.l 13), none, some ((.l 12), false), []⟩,
    ⟨.len false (.l 14), none, some ((.l 12), false), []⟩,
    ⟨.fieldAddr 2 (.v 3), none, some ((.l 12), false), []⟩,
    ⟨.load false 1 (.l 16), none, some ((.l 12), false), []⟩,
    ⟨.len false (.l 17), none, some ((.l 12), false), []⟩,
    ⟨.bin .neq false (.l 15) (.l 18), none, some ((.l 12), false), []⟩,
    ⟨.pick (.l 12) (.c (.bool true)) (.l 19), some 7, none, []⟩]) (
  .cond (.v 7) (
   .seq (
   .reg [⟨.mv (.c (.bool false)), some 4, none, []⟩]) (
   .ret)) (
   .skip))) (
  .seq (
  .seq (
  .reg [⟨.mv (.c (.int .i64 0)), some 5, none, []⟩]) (
  .block 0 (
   .loopS [2, 3, 5] 2 (
    .seq (
    .seq (
    .reg [⟨.mv (.v 5), none, none, []⟩,
      ⟨.fieldAddr 2 (.v 2), none, none, []⟩,
      ⟨.load false 1 (.l 1), none, none, []⟩,
      ⟨.len false (.l 2), none, none, []⟩,
      ⟨.bin .lss false (.l 0) (.l 3), some 8, none, []⟩]) (
    .cond (.v 8) (
     .skip) (
     .exit 0))) (
    .seq (
    .block 1 (
     .seq (
     .seq (
     .reg [⟨.fieldAddr 2 (.v 2), none, none, []⟩,
       ⟨.load false 1 (.l 0), none, none, []⟩,
       ⟨.mv (.v 5), none, none, []⟩,
       ⟨.indexAddr 1 (.l 1) (.l 2), none, none, []⟩,
       ⟨.load false 1 (.l 3), none, none, []⟩,
       ⟨.len false (.l 4), none, none, []⟩,
       ⟨.fieldAddr 2 (.v 3), none, none, []⟩,
       ⟨.load false 1 (.l 6), none, none, []⟩,
       ⟨.mv (.v 5), none, none, []⟩,
       ⟨.indexAddr 1 (.l 7) (.l 8), none, none, []⟩,
       ⟨.load false 1 (.l 9), none, none, []⟩,
       ⟨.len false (.l 10), none, none, []⟩,
       ⟨.bin .neq false (.l 5) (.l 11), some 9, none, []⟩]) (
     .cond (.v 9) (
      .seq (
      .reg [⟨.mv (.c (.bool false)), some 4, none, []⟩]) (
      .ret)) (
      .skip))) (
     .seq (
     .reg [⟨.mv (.c (.int .i64 0)), some 6, none, []⟩]) (
     .block 2 (
      .loopS [2, 3, 5, 6] 2 (
       .seq (
       .seq (
       .reg [⟨.mv (.v 6), none, none, []⟩,
         ⟨.fieldAddr 2 (.v 2), none, none, []⟩,
         ⟨.load false 1 (.l 1), none, none, []⟩,
         ⟨.mv (.v 5), none, none, []⟩,
         ⟨.indexAddr 1 (.l 2) (.l 3), none, none, []⟩,
         ⟨.load false 1 (.l 4), none, none, []⟩,
         ⟨.len false (.l 5), none, none, []⟩,
         ⟨.bin .lss false (.l 0) (.l 6), some 10, none, []⟩]) (
       .cond (.v 10) (
        .skip) (
        .exit 2))) (
       .seq (
       .block 3 (
        .seq (
        .reg [⟨.fieldAddr 2 (.v 2), none, none, []⟩,
          ⟨.load false 1 (.l 0), none, none, []⟩,
          ⟨.mv (.v 5), none, none, []⟩,
          ⟨.indexAddr 1 (.l 1) (.l 2), none, none, []⟩,
          ⟨.load false 1 (.l 3), none, none, []⟩,
          ⟨.mv (.v 6), none, none, []⟩,
          ⟨.indexAddr 1 (.l 4) (.l 5), none, none, []⟩,
          ⟨.load false 1 (.l 6), none, none, []⟩,
          ⟨.fieldAddr 2 (.v 3), none, none, []⟩,
          ⟨.load false 1 (.l 8), none, none, []⟩,
          ⟨.mv (.v 5), none, none, []⟩,
          ⟨.indexAddr 1 (.l 9) (.l 10), none, none, []⟩,
          ⟨.load false 1 (.l 11), none, none, []⟩,
          ⟨.mv (.v 6), none, none, []⟩,
          ⟨.indexAddr 1 (.l 12) (.l 13), none, none, []⟩,
          ⟨.load false 1 (.l 14), none, none, []⟩,
          ⟨.bin .neq true (.l 7) (.l 15), some 11, none, []⟩]) (
        .cond (.v 11) (
         .seq (
         .reg [⟨.mv (.c (.bool false)), some 4, none, []⟩]) (
         .ret)) (
         .skip)))) (
       .reg [⟨.mv (.v 6), none, none, []⟩,
         ⟨.bin .add false (.l 0) (.c (.int .i64 1)), none, none, []⟩,
         ⟨.mv (.l 1), some 6, none, []⟩])))))))) (
    .reg [⟨.mv (.v 5), none, none, []⟩,
      ⟨.bin .add false (.l 0) (.c (.int .i64 1)), none, none, []⟩,
      ⟨.mv (.l 1), some 5, none, []⟩])))))) (
  .seq (
  .reg [⟨.mv (.c (.bool true)), some 4, none, []⟩]) (
  .ret))))⟩

def X40 : XFn :=
 ⟨10, [0, 1, 2], 2, [(2, some (true, 3))],
  .seq (
  .reg [⟨.box 0 (.v 0), some 1, none, []⟩,
    ⟨.alloc 1 [(.int .i64 0), (.int .i64 0), .nils], some 2, none, []⟩]) (
  .seq (
  .reg [⟨.fieldAddr 0 (.v 1), none, none, []⟩,
    ⟨.load false 1 (.l 0), none, none, []⟩,
    ⟨.fieldAddr 1 (.v 1), none, none, []⟩,
    ⟨.load false 1 (.l 2), none, none, []⟩,
    ⟨.fieldAddr 2 (.v 1), none, none, []⟩,
    ⟨.load false 1 (.l 4), none, none, []⟩,
    ⟨.build [(.int .i64 0), (.int .i64 0), .nils] [(0, 1, (.l 1)), (1, 1, (.l 3)), (2, 1, (.l 5))], none, none, []⟩,
    ⟨.store 3 (.v 2) (.l 6), none, none, []⟩]) (
  .ret))⟩

def X41 : XFn :=
 ⟨10, [0, 1, 2], 2, [(2, some (true, 3))],
  .seq (
  .reg [⟨.box 0 (.v 0), some 1, none, []⟩,
    ⟨.alloc 1 [(.int .i64 0), (.int .i64 0), .nils], some 2, none, []⟩]) (
  .seq (
  .reg [⟨.fieldAddr 0 (.v 1), none, none, []⟩,
    ⟨.load false 1 (.l 0), none, none, []⟩,
    ⟨.fieldAddr 1 (.v 1), none, none, []⟩,
    ⟨.load false 1 (.l 2), none, none, []⟩,
    ⟨.fieldAddr 3 (.v 1), none, none, []⟩,
    ⟨.load false 1 (.l 4), none, none, []⟩,
    ⟨.build [(.int .i64 0), (.int .i64 0), .nils] [(0, 1, (.l 1)), (1, 1, (.l 3)), (2, 1, (.l 5))], none, none, []⟩,
    ⟨.store 3 (.v 2) (.l 6), none, none, []⟩]) (
  .ret))⟩

def X42 : XFn :=
 ⟨31, [0, 1, 2, 3, 4], 2, [(4, none)],
  .seq (
  .reg [⟨.box 0 (.v 0), some 2, none, []⟩,
    ⟨.box 1 (.v 1), some 3, none, []⟩,
    ⟨.mv (.c (.bool false)), some 4, none, []⟩]) (
  .seq (
  .reg [⟨.fieldAddr 0 (.v 2), none, none, []⟩,
    ⟨.load false 1 (.l 0), none, none, []⟩,
    ⟨.fieldAddr 0 (.v 3), none, none, []⟩,
    ⟨.load false 1 (.l 2), none, none, []⟩,
    ⟨.bin .eql false (.l 1) (.l 3), none, none, []⟩,
    ⟨.mv (.l 4), none, none, []⟩,
    ⟨.fieldAddr 1 (.v 2), none, some ((.l 5), true), []⟩,
    ⟨.load false 1 (.l 6), none, some ((.l 5), true), []⟩,
    ⟨.fieldAddr 1 (.v 3), none, some ((.l 5), true), []⟩,
    ⟨.load false 1 (.l 8), none, some ((.l 5), true), []⟩,
    ⟨.bin .eql false (.l 7) (.l 9), none, some ((.l 5), true), []⟩,
    ⟨.pick (.l 5) (.l 10) (.c (.bool false)), none, none, []⟩,
    ⟨.mv (.l 11), none, none, []⟩,
    ⟨.fieldAddr 2 (.v 2), none, some ((.l 12), true), []⟩,
    ⟨.load false 1 (.l 13), none, some ((.l 12), true), []⟩,
    ⟨.fieldAddr 2 (.v 3), none, some ((.l 12), true), []⟩,
    ⟨.load false 1 (.l 15), none, some ((.l 12), true), []⟩,
    ⟨.call 55 [(.l 14), (.l 16)] [(0, 0)] true, none, some ((.l 12), true), []⟩,
    ⟨.pick (.l 12) (.l 17) (.c (.bool false)), none, none, []⟩,
    ⟨.mv (.l 18), none, none, []⟩,
    ⟨.fieldAddr 3 (.v 2), none, some ((.l 19), true), []⟩,
    ⟨.load false 1 (.l 20), none, some ((.l 19), true), []⟩,
    ⟨.fieldAddr 3 (.v 3), none, some ((.l 19), true), []⟩,
    ⟨.load false 1 (.l 22), none, some ((.l 19), true), []⟩,
    ⟨.call 55 [(.l 21), (.l 23)] [(0, 0)] true, none, some ((.l 19), true), []⟩,
    ⟨.pick (.l 19) (.l 24) (.c (.bool false)), none, none, []⟩,
    ⟨.mv (.l 25), some 4, none, []⟩]) (
  .ret))⟩

def X43 : XFn :=
 ⟨51, [0, 1, 2, 18, 34], 1, [(2, none)],
  .seq (
  .reg [⟨.box 0 (.v 0), some 1, none, []⟩,
    ⟨.mv (.c (.bool false)), some 2, none, []⟩]) (
  .seq (
  .seq (
  .reg [⟨.fieldAddr 0 (.v 1), none, none, []⟩,
    ⟨.load false 1 (.l 0), none, none, []⟩,
    ⟨.bin .rem false (.l 1) (.c (.int .i64 2)), none, none, []⟩,
    ⟨.bin .neq false (.l 2) (.c (.int .i64 0)), none, none, []⟩,
    ⟨.mv (.l 3), none, none, []⟩,
    ⟨.fieldAddr 0 (.v 1), none, some ((.l 4), false), []⟩,
    ⟨.load false 1 (.l 5), none, some ((.l 4), false), []⟩,
    ⟨.bin .quo false (.l 6) (.c (.int .i64 2)), none, some ((.l 4), false), []⟩,
    ⟨.bin .lss false (.l 7) (.c (.int .i64 24)), none, some ((.l 4), false), []⟩,
    ⟨.pick (.l 4) (.c (.bool true)) (.l 8), none, none, []⟩,
    ⟨.mv (.l 9), none, none, []⟩,
    ⟨.fieldAddr 0 (.v 1), none, some ((.l 10), false), []⟩,
    ⟨.load false 1 (.l 11), none, some ((.l 10), false), []⟩,
    ⟨.bin .quo false (.l 12) (.c (.int .i64 2)), none, some ((.l 10), false), []⟩,
    ⟨.bin .gtr false (.l 13) (.c (.int .i64 60)), none, some ((.l 10), false), []⟩,
    ⟨.pick (.l 10) (.c (.bool true)) (.l 14), some 3, none, []⟩]) (
  .cond (.v 3) (
   .seq (
   .reg [⟨.mv (.c (.bool false)), some 2, none, []⟩]) (
   .ret)) (
   .skip))) (
  .seq (
  .seq (
  .reg [⟨.fieldAddr 1 (.v 1), none, none, []⟩,
    ⟨.load false 1 (.l 0), none, none, []⟩,
    ⟨.bin .rem false (.l 1) (.c (.int .i64 3)), none, none, []⟩,
    ⟨.bin .neq false (.l 2) (.c (.int .i64 0)), none, none, []⟩,
    ⟨.mv (.l 3), none, none, []⟩,
    ⟨.fieldAddr 1 (.v 1), none, some ((.l 4), false), []⟩,
    ⟨.load false 1 (.l 5), none, some ((.l 4), false), []⟩,
    ⟨.bin .quo false (.l 6) (.c (.int .i64 3)), none, some ((.l 4), false), []⟩,
    ⟨.bin .lss false (.l 7) (.c (.int .i64 4)), none, some ((.l 4), false), []⟩,
    ⟨.pick (.l 4) (.c (.bool true)) (.l 8), none, none, []⟩,
    ⟨.mv (.l 9), none, none, []⟩,
    ⟨.fieldAddr 1 (.v 1), none, some ((.l 10), false), []⟩,
    ⟨.load false 1 (.l 11), none, some ((.l 10), false), []⟩,
    ⟨.bin .quo false (.l 12) (.c (.int .i64 3)), none, some ((.l 10), false), []⟩,
    ⟨.bin .gtr false (.l 13) (.c (.int .i64 40)), none, some ((.l 10), false), []⟩,
    ⟨.pick (.l 10) (.c (.bool true)) (.l 14), some 4, none, []⟩]) (
  .cond (.v 4) (
   .seq (
   .reg [⟨.mv (.c (.bool false)), some 2, none, []⟩]) (
   .ret)) (
   .skip))) (
  .seq (
  .reg [⟨.fieldAddr 2 (.v 1), none, none, []⟩,
    ⟨.load false 1 (.l 0), none, none, []⟩,
    ⟨.fieldAddr 0 (.v 1), none, none, []⟩,
    ⟨.load false 1 (.l 2), none, none, []⟩,
    ⟨.fieldAddr 1 (.v 1), none, none, []⟩,
    ⟨.load false 1 (.l 4), none, none, []⟩,
    ⟨.call 56 [(.l 1), (.l 3), (.l 5)] [(0, 0)] true, none, none, []⟩,
    ⟨.mv (.l 6), none, none, []⟩,
    ⟨.fieldAddr 3 (.v 1), none, some ((.l 7), true), []⟩,
    ⟨.load false 1 (.l 8), none, some ((.l 7), true), []⟩,
    ⟨.fieldAddr 0 (.v 1), none, some ((.l 7), true), []⟩,
    ⟨.load false 1 (.l 10), none, some ((.l 7), true), []⟩,
    ⟨.fieldAddr 1 (.v 1), none, some ((.l 7), true), []⟩,
    ⟨.load false 1 (.l 12), none, some ((.l 7), true), []⟩,
    ⟨.call 56 [(.l 9), (.l 11), (.l 13)] [(0, 0)] true, none, some ((.l 7), true), []⟩,
    ⟨.pick (.l 7) (.l 14) (.c (.bool false)), none, none, []⟩,
    ⟨.mv (.l 15), some 2, none, []⟩]) (
  .ret))))⟩

def X44 : XFn :=
 ⟨53, [0, 1, 2, 36], 1, [(2, none)],
  .seq (
  .reg [⟨.box 0 (.v 0), some 1, none, []⟩,
    ⟨.mv (.c (.bool false)), some 2, none, []⟩]) (
  .seq (
  .seq (
  .reg [⟨.fieldAddr 0 (.v 1), none, none, []⟩,
    ⟨.load false 1 (.l 0), none, none, []⟩,
    ⟨.bin .rem false (.l 1) (.c (.int .i64 2)), none, none, []⟩,
    ⟨.bin .neq false (.l 2) (.c (.int .i64 0)), none, none, []⟩,
    ⟨.mv (.l 3), none, none, []⟩,
    ⟨.fieldAddr 0 (.v 1), none, some ((.l 4), false), []⟩,
    ⟨.load false 1 (.l 5), none, some ((.l 4), false), []⟩,
    ⟨.bin .quo false (.l 6) (.c (.int .i64 2)), none, some ((.l 4), false), []⟩,
    ⟨.bin .lss false (.l 7) (.c (.int .i64 24)), none, some ((.l 4), false), []⟩,
    ⟨.pick (.l 4) (.c (.bool true)) (.l 8), none, none, []⟩,
    ⟨.mv (.l 9), none, none, []⟩,
    ⟨.fieldAddr 0 (.v 1), none, some ((.l 10), false), []⟩,
    ⟨.load false 1 (.l 11), none, some ((.l 10), false), []⟩,
    ⟨.bin .quo false (.l 12) (.c (.int .i64 2)), none, some ((.l 10), false), []⟩,
    ⟨.bin .gtr false (.l 13) (.c (.int .i64 60)), none, some ((.l 10), false), []⟩,
    ⟨.pick (.l 10) (.c (.bool true)) (.l 14), none, none, []⟩,
    ⟨.mv (.l 15), none, none, []⟩,
    ⟨.fieldAddr 1 (.v 1), none, some ((.l 16), false), []⟩,
    ⟨.load false 1 (.l 17), none, some ((.l 16), false), []⟩,
    ⟨.bin .rem false (.l 18) (.c (.int .i64 3)), none, some ((.l 16), false), []⟩,
    ⟨.bin .neq false (.l 19) (.c (.int .i64 0)), none, some ((.l 16), false), []⟩,
    ⟨.pick (.l 16) (.c (.bool true)) (.l 20), none, none, []⟩,
    ⟨.mv (.l 21), none, none, []⟩,
    ⟨.fieldAddr 1 (.v 1), none, some ((.l 22), false), []⟩,
    ⟨.load false 1 (.l 23), none, some ((.l 22), false), []⟩,
    ⟨.bin .quo false (.l 24) (.c (.int .i64 3)), none, some ((.l 22), false), []⟩,
    ⟨.bin .lss false (.l 25) (.c (.int .i64 4)), none, some ((.l 22), false), []⟩,
    ⟨.pick (.l 22) (.c (.bool true)) (.l 26), none, none, []⟩,
    ⟨.mv (.l 27), none, none, []⟩,
    ⟨.fieldAddr 1 (.v 1), none, some ((.l 28), false), []⟩,
    ⟨.load false 1 (.l 29), none, some ((.l 28), false), []⟩,
    ⟨.bin .quo false (.l 30) (.c (.int .i64 3)), none, some ((.l 28), false), []⟩,
    ⟨.bin .gtr false (.l 31) (.c (.int .i64 40)), none, some ((.l 28), false), []⟩,
    ⟨.pick (.l 28) (.c (.bool true)) (.l 32), some 3, none, []⟩]) (
  .cond (.v 3) (
   .seq (
   .reg [⟨.mv (.c (.bool false)), some 2, none, []⟩]) (
   .ret)) (
   .skip))) (
  .seq (
  .reg [⟨.fieldAddr 2 (.v 1), none, none, []⟩,
    ⟨.load false 1 (.l 0), none, none, []⟩,
    ⟨.fieldAddr 0 (.v 1), none, none, []⟩,
    ⟨.load false 1 (.l 2), none, none, []⟩,
    ⟨.fieldAddr 1 (.v 1), none, none, []⟩,
    ⟨.load false 1 (.l 4), none, none, []⟩,
    ⟨.call 57 [(.l 1), (.l 3), (.l 5)] [(0, 0)] true, none, none, []⟩,
    ⟨.mv (.l 6), none, none, []⟩,
    ⟨.fieldAddr 3 (.v 1), none, some ((.l 7), true), []⟩,
    ⟨.load false 1 (.l 8), none, some ((.l 7), true), []⟩,
    ⟨.fieldAddr 0 (.v 1), none, some ((.l 7), true), []⟩,
    ⟨.load false 1 (.l 10), none, some ((.l 7), true), []⟩,
    ⟨.fieldAddr 1 (.v 1), none, some ((.l 7), true), []⟩,
    ⟨.load false 1 (.l 12), none, some ((.l 7), true), []⟩,
    ⟨.call 57 [(.l 9), (.l 11), (.l 13)] [(0, 0)] true, none, some ((.l 7), true), []⟩,
    ⟨.pick (.l 7) (.l 14) (.c (.bool false)), none, none, []⟩,
    ⟨.mv (.l 15), some 2, none, []⟩]) (
  .ret)))⟩

def X45 : XFn :=
 ⟨45, [0, 1, 2, 3, 29, 33, 44], 1, [(2, none)],
  .seq (
  .reg [⟨.box 0 (.v 0), some 1, none, []⟩,
    ⟨.mv (.c (.bool false)), some 2, none, []⟩]) (
  .seq (
  .seq (
  .reg [⟨.fieldAddr 0 (.v 1), none, none, []⟩,
    ⟨.load false 1 (.l 0), none, none, []⟩,
    ⟨.bin .lss false (.l 1) (.c (.int .i64 0)), none, none, []⟩,
    ⟨.mv (.l 2), none, none, []⟩,
    ⟨.fieldAddr 0 (.v 1), none, some ((.l 3), false), []⟩,
    ⟨.load false 1 (.l 4), none, some ((.l 3), false), []⟩,
    ⟨.bin .gtr false (.l 5) (.c (.int .i64 200)), none, some ((.l 3), false), []⟩,
    ⟨.pick (.l 3) (.c (.bool true)) (.l 6), none, none, []⟩,
    ⟨.mv (.l 7), none, none, []⟩,
    ⟨.fieldAddr 1 (.v 1), none, some ((.l 8), false), []⟩,
    ⟨.load false 1 (.l 9), none, some ((.l 8), false), []⟩,
    ⟨.bin .lss false (.l 10) (.c (.int .i64 0)), none, some ((.l 8), false), []⟩,
    ⟨.pick (.l 8) (.c (.bool true)) (.l 11), none, none, []⟩,
    ⟨.mv (.l 12), none, none, []⟩,
    ⟨.fieldAddr 1 (.v 1), none, some ((.l 13), false), []⟩,
    ⟨.load false 1 (.l 14), none, some ((.l 13), false), []⟩,
    ⟨.bin .gtr false (.l 15) (.c (.int .i64 200)), none, some ((.l 13), false), []⟩,
    ⟨.pick (.l 13) (.c (.bool true)) (.l 16), none, none, []⟩,
    ⟨.mv (.l 17), none, none, []⟩,
    ⟨.fieldAddr 2 (.v 1), none, some ((.l 18), false), []⟩,
    ⟨.load false 1 (.l 19), none, some ((.l 18), false), []⟩,
    ⟨.len false (.l 20), none, some ((.l 18), false), []⟩,
    ⟨.fieldAddr 1 (.v 1), none, some ((.l 18), false), []⟩,
    ⟨.load false 1 (.l 22), none, some ((.l 18), false), []⟩,
    ⟨.bin .neq false (.l 21) (.l 23), none, some ((.l 18), false), []⟩,
    ⟨.pick (.l 18) (.c (.bool true)) (.l 24), some 4, none, []⟩]) (
  .cond (.v 4) (
   .seq (
   .reg [⟨.mv (.c (.bool false)), some 2, none, []⟩]) (
   .ret)) (
   .skip))) (
  .seq (
  .seq (
  .reg [⟨.mv (.c (.int .i64 0)), some 3, none, []⟩]) (
  .block 0 (
   .loopS [1, 3] 1 (
    .seq (
    .seq (
    .reg [⟨.mv (.v 3), none, none, []⟩,
      ⟨.fieldAddr 1 (.v 1), none, none, []⟩,
      ⟨.load false 1 (.l 1), none, none, []⟩,
      ⟨.bin .lss false (.l 0) (.l 2), some 5, none, []⟩]) (
    .cond (.v 5) (
     .skip) (
     .exit 0))) (
    .seq (
    .block 1 (
     .seq (
     .reg [⟨.fieldAddr 2 (.v 1), none, none, []⟩,
       ⟨.load false 1 (.l 0), none, none, []⟩,
       ⟨.mv (.v 3), none, none, []⟩,
       ⟨.indexAddr 1 (.l 1) (.l 2), none, none, []⟩,
       ⟨.load false 1 (.l 3), none, none, []⟩,
       ⟨.len false (.l 4), none, none, []⟩,
       ⟨.fieldAddr 0 (.v 1), none, none, []⟩,
       ⟨.load false 1 (.l 6), none, none, []⟩,
       ⟨.bin .neq false (.l 5) (.l 7), some 6, none, []⟩]) (
     .cond (.v 6) (
      .seq (
      .reg [⟨.mv (.c (.bool false)), some 2, none, []⟩]) (
      .ret)) (
      .skip)))) (
    .reg [⟨.mv (.v 3), none, none, []⟩,
      ⟨.bin .add false (.l 0) (.c (.int .i64 1)), none, none, []⟩,
      ⟨.mv (.l 1), some 3, none, []⟩])))))) (
  .seq (
  .reg [⟨.mv (.c (.bool true)), some 2, none, []⟩]) (
  .ret))))⟩

def X46 : XFn :=
 ⟨27, [0, 1, 2, 3, 4], 2, [(4, none)],
  .seq (
  .reg [⟨.box 0 (.v 0), some 2, none, []⟩,
    ⟨.box 1 (.v 1), some 3, none, []⟩,
    ⟨.mv (.c (.bool false)), some 4, none, []⟩]) (
  .seq (
  .reg [⟨.fieldAddr 0 (.v 3), none, none, []⟩,
    ⟨.load false 1 (.l 0), none, none, []⟩,
    ⟨.bin .geq false (.l 1) (.c (.int .i64 0)), none, none, []⟩,
    ⟨.mv (.l 2), none, none, []⟩,
    ⟨.fieldAddr 0 (.v 3), none, some ((.l 3), true), []⟩,
    ⟨.load false 1 (.l 4), none, some ((.l 3), true), []⟩,
    ⟨.fieldAddr 0 (.v 2), none, some ((.l 3), true), []⟩,
    ⟨.load false 1 (.l 6), none, some ((.l 3), true), []⟩,
    ⟨.bin .lss false (.l 5) (.l 7), none, some ((.l 3), true), []⟩,
    ⟨.pick (.l 3) (.l 8) (.c (.bool false)), none, none, []⟩,
    ⟨.mv (.l 9), none, none, []⟩,
    ⟨.fieldAddr 1 (.v 3), none, some ((.l 10), true), []⟩,
    ⟨.load false 1 (.l 11), none, some ((.l 10), true), []⟩,
    ⟨.bin .geq false (.l 12) (.c (.int .i64 0)), none, some ((.l 10), true), []⟩,
    ⟨.pick (.l 10) (.l 13) (.c (.bool false)), none, none, []⟩,
    ⟨.mv (.l 14), none, none, []⟩,
    ⟨.fieldAddr 1 (.v 3), none, some ((.l 15), true), []⟩,
    ⟨.load false 1 (.l 16), none, some ((.l 15), true), []⟩,
    ⟨.fieldAddr 1 (.v 2), none, some ((.l 15), true), []⟩,
    ⟨.load false 1 (.l 18), none, some ((.l 15), true), []⟩,
    ⟨.bin .lss false (.l 17) (.l 19), none, some ((.l 15), true), []⟩,
    ⟨.pick (.l 15) (.l 20) (.c (.bool false)), none, none, []⟩,
    ⟨.mv (.l 21), some 4, none, []⟩]) (
  .ret))⟩

def X48 : XFn :=
 ⟨36, [0, 1, 4, 5, 6, 7, 8, 9, 10, 11, 12, 13, 17, 18, 19, 20, 24], 2, [(2, none)],
  .seq (
  .reg [⟨.mv (.c .nils), some 2, none, []⟩]) (
  .seq (
  .reg [⟨.mv (.c .nils), some 3, none, []⟩]) (
  .mat 3 none 0 1 (
  .seq (
  .seq (
  .reg [⟨.mv (.v 1), some 8, none, []⟩,
    ⟨.len false (.l 0), some 9, none, []⟩,
    ⟨.mv (.c (.int .i64 0)), some 10, none, []⟩]) (
  .block 0 (
   .loopS [0, 3, 8, 9, 10] 2 (
    .seq (
    .reg [⟨.bin .lss false (.v 10) (.v 9), some 11, none, []⟩]) (
    .seq (
    .cond (.v 11) (
     .skip) (
     .exit 0)) (
    .seq (
    .block 1 (
     .seq (
     .reg [⟨.mv (.v 10), none, none, []⟩,
       ⟨.indexAddr 1 (.v 8) (.v 10), none, none, []⟩,
       ⟨.load false 1 (.l 1), none, none, []⟩,
       ⟨.mv (.l 0), some 4, none, []⟩,
       ⟨.mv (.l 2), some 5, none, []⟩]) (
     .seq (
     .reg [⟨.mv (.v 5), some 12, none, []⟩,
       ⟨.len false (.l 0), some 13, none, []⟩,
       ⟨.mv (.c (.int .i64 0)), some 14, none, []⟩]) (
     .block 2 (
      .loopS [0, 3, 4, 8, 9, 10, 12, 13, 14] 2 (
       .seq (
       .reg [⟨.bin .lss false (.v 14) (.v 13), some 15, none, []⟩]) (
       .seq (
       .cond (.v 15) (
        .skip) (
        .exit 2)) (
       .seq (
       .block 3 (
        .seq (
        .reg [⟨.mv (.v 14), none, none, []⟩,
          ⟨.indexAddr 1 (.v 12) (.v 14), none, none, []⟩,
          ⟨.load false 1 (.l 1), none, none, []⟩,
          ⟨.mv (.l 0), some 6, none, []⟩,
          ⟨.mv (.l 2), some 7, none, []⟩]) (
        .seq (
        .reg [⟨.mv (.v 7), some 16, none, []⟩]) (
        .cond (.v 16) (
         .reg [⟨.mv (.v 3), none, none, []⟩,
           ⟨.mv (.v 4), none, none, []⟩,
           ⟨.mv (.v 0), none, none, []⟩,
           ⟨.bin .mul false (.l 1) (.l 2), none, none, []⟩,
           ⟨.mv (.v 6), none, none, []⟩,
           ⟨.bin .add false (.l 3) (.l 4), none, none, []⟩,
           ⟨.mkarr 0 1 [(.int .i64 0)] [(0, (.l 5))], none, none, []⟩,
           ⟨.append 1 1 8 1 (.l 0) (.l 6), none, none, []⟩,
           ⟨.mv (.l 7), some 3, none, []⟩]) (
         .skip))))) (
       .reg [⟨.bin .add false (.v 14) (.c (.int .i64 1)), none, none, []⟩,
         ⟨.mv (.l 0), some 14, none, []⟩]))))))))) (
    .reg [⟨.bin .add false (.v 10) (.c (.int .i64 1)), none, none, []⟩,
      ⟨.mv (.l 0), some 10, none, []⟩]))))))) (
  .seq (
  .reg [⟨.mv (.v 3), none, none, []⟩,
    ⟨.mv (.l 0), some 2, none, []⟩]) (
  .ret)))))⟩

def X49 : XFn :=
 ⟨37, [0, 1, 2, 6, 7, 9, 12, 13, 14, 15, 20], 6, [(3, some (true, 3))],
  .seq (
  .reg [⟨.alloc 0 [(.int .i64 0), .nils, .nils], some 3, none, []⟩]) (
  .seq (
  .reg [⟨.mv (.v 0), none, none, []⟩,
    ⟨.build [(.int .i64 0), .nils, .nils] [(0, 1, (.l 0))], none, none, []⟩,
    ⟨.alloc 1 [(.int .i64 0), .nils, .nils], some 4, none, []⟩,
    ⟨.store 3 (.l 2) (.l 1), none, none, []⟩]) (
  .mat 4 (some 1) 2 1 (
  .mat 4 (some 2) 4 1 (
  .seq (
  .seq (
  .reg [⟨.mv (.v 2), some 6, none, []⟩,
    ⟨.len false (.l 0), some 7, none, []⟩,
    ⟨.mv (.c (.int .i64 0)), some 8, none, []⟩]) (
  .block 0 (
   .loopS [1, 3, 4, 6, 7, 8] 6 (
    .seq (
    .reg [⟨.bin .lss false (.v 8) (.v 7), some 9, none, []⟩]) (
    .seq (
    .cond (.v 9) (
     .skip) (
     .exit 0)) (
    .seq (
    .block 1 (
     .seq (
     .reg [⟨.indexAddr 1 (.v 6) (.v 8), none, none, []⟩,
       ⟨.load false 1 (.l 0), none, none, []⟩,
       ⟨.mv (.l 1), some 5, none, []⟩]) (
     .seq (
     .reg [⟨.mv (.v 5), none, none, []⟩,
       ⟨.mv (.v 1), none, none, []⟩,
       ⟨.bin .lss false (.l 0) (.l 1), some 10, none, []⟩]) (
     .cond (.v 10) (
      .reg [⟨.fieldAddr 1 (.v 4), none, none, []⟩,
        ⟨.load false 1 (.l 0), none, none, []⟩,
        ⟨.mv (.v 5), none, none, []⟩,
        ⟨.mkarr 2 1 [(.int .i64 0)] [(0, (.l 2))], none, none, []⟩,
        ⟨.append 3 1 8 1 (.l 1) (.l 3), none, none, []⟩,
        ⟨.fieldAddr 1 (.v 4), none, none, []⟩,
        ⟨.store 1 (.l 5) (.l 4), none, none, []⟩]) (
      .reg [⟨.fieldAddr 2 (.v 4), none, none, []⟩,
        ⟨.load false 1 (.l 0), none, none, []⟩,
        ⟨.mv (.v 5), none, none, []⟩,
        ⟨.mv (.v 1), none, none, []⟩,
        ⟨.bin .sub false (.l 2) (.l 3), none, none, []⟩,
        ⟨.mkarr 4 1 [(.int .i64 0)] [(0, (.l 4))], none, none, []⟩,
        ⟨.append 5 1 8 1 (.l 1) (.l 5), none, none, []⟩,
        ⟨.fieldAddr 2 (.v 4), none, none, []⟩,
        ⟨.store 1 (.l 7) (.l 6), none, none, []⟩]))))) (
    .reg [⟨.bin .add false (.v 8) (.c (.int .i64 1)), none, none, []⟩,
      ⟨.mv (.l 0), some 8, none, []⟩]))))))) (
  .seq (
  .reg [⟨.load true 3 (.v 4), none, none, []⟩,
    ⟨.store 3 (.v 3) (.l 0), none, none, []⟩]) (
  .ret))))))⟩

def X50 : XFn :=
 ⟨21, [0, 1, 4, 5, 6, 10, 11, 12], 2, [(2, none)],
  .seq (
  .reg [⟨.mv (.c .nils), some 2, none, []⟩]) (
  .seq (
  .reg [⟨.mv (.v 1), none, none, []⟩,
    ⟨.makeSlice 0 1 24 (.slc []) (.l 0) (.l 0), none, none, []⟩,
    ⟨.mv (.l 1), some 3, none, []⟩]) (
  .seq (
  .seq (
  .reg [⟨.mv (.v 3), none, none, []⟩,
    ⟨.len false (.l 0), some 5, none, []⟩,
    ⟨.mv (.c (.int .i64 0)), some 6, none, []⟩]) (
  .block 0 (
   .loopS [0, 3, 5, 6] 2 (
    .seq (
    .reg [⟨.bin .lss false (.v 6) (.v 5), some 7, none, []⟩]) (
    .seq (
    .cond (.v 7) (
     .skip) (
     .exit 0)) (
    .seq (
    .block 1 (
     .seq (
     .reg [⟨.mv (.v 6), none, none, []⟩,
       ⟨.mv (.l 0), some 4, none, []⟩]) (
     .reg [⟨.mv (.v 3), none, none, []⟩,
       ⟨.mv (.v 4), none, none, []⟩,
       ⟨.mv (.v 0), none, none, []⟩,
       ⟨.makeSlice 1 1 1 (.bool false) (.l 2) (.l 2), none, none, []⟩,
       ⟨.indexAddr 1 (.l 0) (.l 1), none, none, []⟩,
       ⟨.store 1 (.l 4) (.l 3), none, none, []⟩]))) (
    .reg [⟨.bin .add false (.v 6) (.c (.int .i64 1)), none, none, []⟩,
      ⟨.mv (.l 0), some 6, none, []⟩]))))))) (
  .seq (
  .reg [⟨.mv (.v 3), none, none, []⟩,
    ⟨.mv (.l 0), some 2, none, []⟩]) (
  .ret))))⟩

def X51 : XFn :=
 ⟨24, [0, 1, 4, 5, 7, 8, 9, 10, 11, 21], 0, [(2, none)],
  .seq (
  .reg [⟨.mv (.c (.bool false)), some 2, none, []⟩]) (
  .seq (
  .reg [⟨.mv (.c (.int .i64 (-1))), some 3, none, []⟩]) (
  .seq (
  .seq (
  .reg [⟨.mv (.v 0), some 5, none, []⟩,
    ⟨.len false (.l 0), some 6, none, []⟩,
    ⟨.mv (.c (.int .i64 0)), some 7, none, []⟩]) (
  .block 0 (
   .loopS [1, 3, 5, 6, 7] 0 (
    .seq (
    .reg [⟨.bin .lss false (.v 7) (.v 6), some 8, none, []⟩]) (
    .seq (
    .cond (.v 8) (
     .skip) (
     .exit 0)) (
    .seq (
    .block 1 (
     .seq (
     .reg [⟨.indexAddr 1 (.v 5) (.v 7), none, none, []⟩,
       ⟨.load false 1 (.l 0), none, none, []⟩,
       ⟨.mv (.l 1), some 4, none, []⟩]) (
     .seq (
     .seq (
     .reg [⟨.mv (.v 4), none, none, []⟩,
       ⟨.mv (.v 3), none, none, []⟩,
       ⟨.bin .leq false (.l 0) (.l 1), none, none, []⟩,
       ⟨.mv (.l 2), none, none, []⟩,
       ⟨.mv (.v 4), none, some ((.l 3), false), []⟩,
       ⟨.mv (.v 1), none, some ((.l 3), false), []⟩,
       ⟨.bin .geq false (.l 4) (.l 5), none, some ((.l 3), false), []⟩,
       ⟨.pick (.l 3) (.c (.bool true)) (.l 6), some 9, none, []⟩]) (
     .cond (.v 9) (
      .seq (
      .reg [⟨.mv (.c (.bool false)), some 2, none, []⟩]) (
      .ret)) (
      .skip))) (
     .reg [⟨.mv (.v 4), none, none, []⟩,
       ⟨.mv (.l 0), some 3, none, []⟩])))) (
    .reg [⟨.bin .add false (.v 7) (.c (.int .i64 1)), none, none, []⟩,
      ⟨.mv (.l 0), some 7, none, []⟩]))))))) (
  .seq (
  .reg [⟨.mv (.c (.bool true)), some 2, none, []⟩]) (
  .ret))))⟩

def X52 : XFn :=
 ⟨25, [0, 1, 4, 5, 7, 14, 15, 16, 17], 1, [(2, none)],
  .seq (
  .reg [⟨.mv (.c .nils), some 2, none, []⟩]) (
  .seq (
  .reg [⟨.mv (.v 0), none, none, []⟩,
    ⟨.len false (.l 0), none, none, []⟩,
    ⟨.makeSlice 0 1 1 (.bool false) (.l 1) (.l 1), none, none, []⟩,
    ⟨.mv (.l 2), some 3, none, []⟩]) (
  .seq (
  .reg [⟨.mv (.v 3), none, none, []⟩,
    ⟨.mv (.v 0), none, none, []⟩,
    ⟨.copy 1 (.l 0) (.l 1), none, none, []⟩]) (
  .seq (
  .seq (
  .reg [⟨.mv (.v 1), some 5, none, []⟩,
    ⟨.len false (.l 0), some 6, none, []⟩,
    ⟨.mv (.c (.int .i64 0)), some 7, none, []⟩]) (
  .block 0 (
   .loopS [3, 5, 6, 7] 1 (
    .seq (
    .reg [⟨.bin .lss false (.v 7) (.v 6), some 8, none, []⟩]) (
    .seq (
    .cond (.v 8) (
     .skip) (
     .exit 0)) (
    .seq (
    .block 1 (
     .seq (
     .reg [⟨.indexAddr 1 (.v 5) (.v 7), none, none, []⟩,
       ⟨.load false 1 (.l 0), none, none, []⟩,
       ⟨.mv (.l 1), some 4, none, []⟩]) (
     .reg [⟨.mv (.v 3), none, none, []⟩,
       ⟨.mv (.v 4), none, none, []⟩,
       ⟨.indexAddr 1 (.l 0) (.l 1), none, none, []⟩,
       ⟨.store 1 (.l 2) (.c (.bool true)), none, none, []⟩]))) (
    .reg [⟨.bin .add false (.v 7) (.c (.int .i64 1)), none, none, []⟩,
      ⟨.mv (.l 0), some 7, none, []⟩]))))))) (
  .seq (
  .reg [⟨.mv (.v 3), none, none, []⟩,
    ⟨.mv (.l 0), some 2, none, []⟩]) (
  .ret)))))⟩

def X54 : XFn :=
 ⟨37, [0, 1, 2, 3, 8, 9, 10, 15, 26], 3, [(4, none)],
  .seq (
  .reg [⟨.mv (.c .nils), some 4, none, []⟩]) (
  .seq (
  .reg [⟨.mkarr 0 2 [] [], none, none, []⟩,
    ⟨.mv (.l 0), some 5, none, []⟩]) (
  .seq (
  .seq (
  .reg [⟨.mv (.c (.int .i64 0)), some 6, none, []⟩]) (
  .block 0 (
   .loopS [0, 1, 2, 3, 5, 6] 3 (
    .seq (
    .seq (
    .reg [⟨.mv (.v 6), none, none, []⟩,
      ⟨.mv (.v 0), none, none, []⟩,
      ⟨.len false (.l 1), none, none, []⟩,
      ⟨.bin .lss false (.l 0) (.l 2), some 7, none, []⟩]) (
    .cond (.v 7) (
     .skip) (
     .exit 0))) (
    .seq (
    .block 1 (
     .seq (
     .reg [⟨.mv (.v 3), none, none, []⟩,
       ⟨.mv (.v 1), none, none, []⟩,
       ⟨.mv (.v 0), none, none, []⟩,
       ⟨.mv (.v 6), none, none, []⟩,
       ⟨.indexAddr 1 (.l 2) (.l 3), none, none, []⟩,
       ⟨.load false 1 (.l 4), none, none, []⟩,
       ⟨.bin .add false (.l 1) (.l 5), none, none, []⟩,
       ⟨.call 37 [(.l 0), (.l 6)] [(0, 0)] true, none, none, []⟩,
       ⟨.un .not (.l 7), some 8, none, []⟩]) (
     .cond (.v 8) (
      .reg [⟨.mv (.v 5), none, none, []⟩,
        ⟨.mv (.v 0), none, none, []⟩,
        ⟨.mv (.v 6), none, none, []⟩,
        ⟨.indexAddr 1 (.l 1) (.l 2), none, none, []⟩,
        ⟨.load false 1 (.l 3), none, none, []⟩,
        ⟨.mv (.v 2), none, none, []⟩,
        ⟨.build [(.int .i64 0), (.int .i64 0)] [(0, 1, (.l 4)), (1, 1, (.l 5))], none, none, []⟩,
        ⟨.mkarr 1 2 [(.agg [(.int .i64 0), (.int .i64 0)])] [(0, (.l 6))], none, none, []⟩,
        ⟨.append 2 2 16 1 (.l 0) (.l 7), none, none, []⟩,
        ⟨.mv (.l 8), some 5, none, []⟩]) (
      .skip)))) (
    .reg [⟨.mv (.v 6), none, none, []⟩,
      ⟨.bin .add false (.l 0) (.c (.int .i64 1)), none, none, []⟩,
      ⟨.mv (.l 1), some 6, none, []⟩])))))) (
  .seq (
  .reg [⟨.mv (.v 5), none, none, []⟩,
    ⟨.mv (.l 0), some 4, none, []⟩]) (
  .ret))))⟩

def X55 : XFn :=
 ⟨8, [0, 1, 4], 0, [(2, none)],
  .seq (
  .reg [⟨.mv (.c (.bool false)), some 2, none, []⟩]) (
  .seq (
  .reg [⟨.mv (.v 0), none, none, []⟩,
    ⟨.mv (.v 1), none, none, []⟩,
    ⟨.callv (.c (.fn (.func 62) [] [])) [(.l 0), (.l 1), (.c (.fn (.func 63) [] []))], none, none, []⟩,
    ⟨.mv (.l 2), some 2, none, []⟩]) (
  .ret))⟩

def X56 : XFn :=
 ⟨24, [0, 1, 2, 6, 8, 12, 13, 14, 15, 16, 22], 0, [(3, none)],
  .seq (
  .reg [⟨.mv (.c (.bool false)), some 3, none, []⟩]) (
  .seq (
  .seq (
  .reg [⟨.mv (.v 0), none, none, []⟩,
    ⟨.len false (.l 0), none, none, []⟩,
    ⟨.mv (.v 2), none, none, []⟩,
    ⟨.bin .neq false (.l 1) (.l 2), some 5, none, []⟩]) (
  .cond (.v 5) (
   .seq (
   .reg [⟨.mv (.c (.bool false)), some 3, none, []⟩]) (
   .ret)) (
   .skip))) (
  .seq (
  .seq (
  .reg [⟨.mv (.v 0), some 6, none, []⟩,
    ⟨.len false (.l 0), some 7, none, []⟩,
    ⟨.mv (.c (.int .i64 0)), some 8, none, []⟩]) (
  .block 0 (
   .loopS [1, 6, 7, 8] 0 (
    .seq (
    .reg [⟨.bin .lss false (.v 8) (.v 7), some 9, none, []⟩]) (
    .seq (
    .cond (.v 9) (
     .skip) (
     .exit 0)) (
    .seq (
    .block 1 (
     .seq (
     .reg [⟨.indexAddr 1 (.v 6) (.v 8), none, none, []⟩,
       ⟨.load false 1 (.l 0), none, none, []⟩,
       ⟨.mv (.l 1), some 4, none, []⟩]) (
     .seq (
     .reg [⟨.mv (.v 4), none, none, []⟩,
       ⟨.len false (.l 0), none, none, []⟩,
       ⟨.mv (.v 1), none, none, []⟩,
       ⟨.bin .neq false (.l 1) (.l 2), some 10, none, []⟩]) (
     .cond (.v 10) (
      .seq (
      .reg [⟨.mv (.c (.bool false)), some 3, none, []⟩]) (
      .ret)) (
      .skip))))) (
    .reg [⟨.bin .add false (.v 8) (.c (.int .i64 1)), none, none, []⟩,
      ⟨.mv (.l 0), some 8, none, []⟩]))))))) (
  .seq (
  .reg [⟨.mv (.c (.bool true)), some 3, none, []⟩]) (
  .ret))))⟩

def X57 : XFn :=
 ⟨24, [0, 1, 2, 6, 7, 11, 14, 23], 0, [(3, none)],
  .seq (
  .reg [⟨.mv (.c (.bool false)), some 3, none, []⟩]) (
  .seq (
  .seq (
  .reg [⟨.mv (.v 0), none, none, []⟩,
    ⟨.len false (.l 0), none, none, []⟩,
    ⟨.mv (.v 2), none, none, []⟩,
    ⟨.bin .neq false (.l 1) (.l 2), some 5, none, []⟩]) (
  .cond (.v 5) (
   .seq (
   .reg [⟨.mv (.c (.bool false)), some 3, none, []⟩]) (
   .ret)) (
   .skip))) (
  .seq (
  .seq (
  .reg [⟨.mv (.c (.int .i64 0)), some 4, none, []⟩]) (
  .block 0 (
   .loopS [0, 1, 2, 4] 0 (
    .seq (
    .seq (
    .reg [⟨.mv (.v 4), none, none, []⟩,
      ⟨.mv (.v 2), none, none, []⟩,
      ⟨.bin .lss false (.l 0) (.l 1), some 6, none, []⟩]) (
    .cond (.v 6) (
     .skip) (
     .exit 0))) (
    .seq (
    .block 1 (
     .seq (
     .reg [⟨.mv (.v 0), none, none, []⟩,
       ⟨.mv (.v 4), none, none, []⟩,
       ⟨.indexAddr 1 (.l 0) (.l 1), none, none, []⟩,
       ⟨.load false 1 (.l 2), none, none, []⟩,
       ⟨.len false (.l 3), none, none, []⟩,
       ⟨.mv (.v 1), none, none, []⟩,
       ⟨.bin .neq false (.l 4) (.l 5), some 7, none, []⟩]) (
     .cond (.v 7) (
      .seq (
      .reg [⟨.mv (.c (.bool false)), some 3, none, []⟩]) (
      .ret)) (
      .skip)))) (
    .reg [⟨.mv (.v 4), none, none, []⟩,
      ⟨.bin .add false (.l 0) (.c (.int .i64 1)), none, none, []⟩,
      ⟨.mv (.l 1), some 4, none, []⟩])))))) (
  .seq (
  .reg [⟨.mv (.c (.bool true)), some 3, none, []⟩]) (
  .ret))))⟩

def X47 : XFn :=
 ⟨9, [0, 1, 2, 3, 4, 6], 13, [(4, none)],
  .seq (
  .reg [⟨.box 11 (.v 0), some 2, none, []⟩,
    ⟨.box 12 (.v 1), some 3, none, []⟩,
    ⟨.mv (.c (.lit .nilFunc)), some 4, none, []⟩]) (
  .frz [(3, true), (11, false)] (
  .seq (
  .seq (
  .reg [⟨.load false 1 (.v 3), none, none, []⟩,
    ⟨.bin .lss false (.l 0) (.c (.int .i64 1)), some 5, none, []⟩]) (
  .cond (.v 5) (
   .reg [⟨.stuck, none, none, []⟩,
     ⟨.stuck, none, none, []⟩]) (
   .skip))) (
  .seq (
  .reg [⟨.mkfn (.func 58) [] [(.v 2), (.v 3)], none, none, []⟩,
    ⟨.mv (.l 0), some 4, none, []⟩]) (
  .ret))))⟩

def X58 : XFn :=
 ⟨31, [0, 1, 2, 4, 5, 9, 30], 13, [],
  .seq (
  .reg [⟨.mv (.c (.int .i64 0)), some 3, none, []⟩]) (
  .block 0 (
   .loop (
    .seq (
    .seq (
    .reg [⟨.mv (.v 3), none, none, []⟩,
      ⟨.load false 1 (.v 1), none, none, []⟩,
      ⟨.len false (.l 1), none, none, []⟩,
      ⟨.bin .lss false (.l 0) (.l 2), some 5, none, []⟩]) (
    .cond (.v 5) (
     .skip) (
     .exit 0))) (
    .seq (
    .block 1 (
     .seq (
     .reg [⟨.load false 1 (.v 2), none, none, []⟩,
       ⟨.load false 1 (.v 1), none, none, []⟩,
       ⟨.mv (.v 3), none, none, []⟩,
       ⟨.slice false 1 (.l 1) (some (.l 2)) none none, none, none, []⟩,
       ⟨.len false (.l 3), none, none, []⟩,
       ⟨.minmax false [(.l 0), (.l 4)], none, none, []⟩,
       ⟨.mv (.l 5), some 4, none, []⟩]) (
     .seq (
     .reg [⟨.mv (.v 0), none, none, []⟩,
       ⟨.load false 1 (.v 1), none, none, []⟩,
       ⟨.mv (.v 3), none, none, []⟩,
       ⟨.mv (.v 3), none, none, []⟩,
       ⟨.mv (.v 4), none, none, []⟩,
       ⟨.bin .add false (.l 3) (.l 4), none, none, []⟩,
       ⟨.mv (.v 3), none, none, []⟩,
       ⟨.mv (.v 4), none, none, []⟩,
       ⟨.bin .add false (.l 6) (.l 7), none, none, []⟩,
       ⟨.slice false 1 (.l 1) (some (.l 2)) (some (.l 5)) (some (.l 8)), none, none, []⟩,
       ⟨.cally (.l 0) [(.l 9)], none, none, []⟩,
       ⟨.un .not (.l 10), some 6, none, []⟩]) (
     .cond (.v 6) (
      .ret) (
      .skip))))) (
    .reg [⟨.mv (.v 3), none, none, []⟩,
      ⟨.load false 1 (.v 2), none, none, []⟩,
      ⟨.bin .add false (.l 0) (.l 1), none, none, []⟩,
      ⟨.mv (.l 2), some 3, none, []⟩])))))⟩

theorem c20 : compFn Try.prog 20 = some { X20 with body := strip X20.body } := by kernel_rfl
theorem c24 : compFn Try.prog 24 = some { X24 with body := strip X24.body } := by kernel_rfl
theorem c25 : compFn Try.prog 25 = some { X25 with body := strip X25.body } := by kernel_rfl
theorem c26 : compFn Try.prog 26 = some { X26 with body := strip X26.body } := by kernel_rfl
theorem c28 : compFn Try.prog 28 = some { X28 with body := strip X28.body } := by kernel_rfl
theorem c30 : compFn Try.prog 30 = some { X30 with body := strip X30.body } := by kernel_rfl
theorem c31 : compFn Try.prog 31 = some { X31 with body := strip X31.body } := by kernel_rfl
theorem c32 : compFn Try.prog 32 = some { X32 with body := strip X32.body } := by kernel_rfl
theorem c33 : compFn Try.prog 33 = some { X33 with body := strip X33.body } := by kernel_rfl
theorem c34 : compFn Try.prog 34 = some { X34 with body := strip X34.body } := by kernel_rfl
theorem c37 : compFn Try.prog 37 = some { X37 with body := strip X37.body } := by kernel_rfl
theorem c39 : compFn Try.prog 39 = some { X39 with body := strip X39.body } := by kernel_rfl
theorem c40 : compFn Try.prog 40 = some { X40 with body := strip X40.body } := by kernel_rfl
theorem c41 : compFn Try.prog 41 = some { X41 with body := strip X41.body } := by kernel_rfl
theorem c42 : compFn Try.prog 42 = some { X42 with body := strip X42.body } := by kernel_rfl
theorem c43 : compFn Try.prog 43 = some { X43 with body := strip X43.body } := by kernel_rfl
theorem c44 : compFn Try.prog 44 = some { X44 with body := strip X44.body } := by kernel_rfl
theorem c45 : compFn Try.prog 45 = some { X45 with body := strip X45.body } := by kernel_rfl
theorem c46 : compFn Try.prog 46 = some { X46 with body := strip X46.body } := by kernel_rfl
theorem c48 : compFn Try.prog 48 = some { X48 with body := strip X48.body } := by kernel_rfl
theorem c49 : compFn Try.prog 49 = some { X49 with body := strip X49.body } := by kernel_rfl
theorem c50 : compFn Try.prog 50 = some { X50 with body := strip X50.body } := by kernel_rfl
theorem c51 : compFn Try.prog 51 = some { X51 with body := strip X51.body } := by kernel_rfl
theorem c52 : compFn Try.prog 52 = some { X52 with body := strip X52.body } := by kernel_rfl
theorem c54 : compFn Try.prog 54 = some { X54 with body := strip X54.body } := by kernel_rfl
theorem c55 : compFn Try.prog 55 = some { X55 with body := strip X55.body } := by kernel_rfl
theorem c56 : compFn Try.prog 56 = some { X56 with body := strip X56.body } := by kernel_rfl
theorem c57 : compFn Try.prog 57 = some { X57 with body := strip X57.body } := by kernel_rfl
theorem c47 : compFnAt Try.prog 47 11 = some { X47 with body := strip X47.body } := by kernel_rfl
theorem c58 : compFnAt Try.prog 58 13 = some { X58 with body := stripF X58.body } := by kernel_rfl
end Go.Proofs.Ytgdcogoacnghkaa.N
