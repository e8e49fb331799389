/-
  Chapter 27: the reference, the embosser, as the machine takes them (printed).
-/
import Derived.Test.YtgdcogoacnghkaaProg
import Derived.KernelRfl
import Derived.Test.YtgdcogoacnghkaaMg5
namespace Go.Proofs.Ytgdcogoacnghkaa.N
set_option linter.unusedSimpArgs false
set_option linter.unusedVariables false
set_option linter.unusedSectionVars false
open Go.Proofs.Ytgdcogoacnghkaa.Am
def X11 : XFn :=
 ⟨62, [0, 1, 2, 3, 4, 5, 6, 17, 44], 13, [(2, some (true, 4))],
  .seq (
  .reg [⟨.box 0 (.v 0), some 1, none, []⟩,
    ⟨.alloc 1 [(.int .i64 0), (.int .i64 0), .nils, .nils], some 2, none, []⟩]) (
  .seq (
  .reg [⟨.mkarr 2 2 [] [], none, none, []⟩,
    ⟨.mkarr 3 2 [] [], none, none, []⟩,
    ⟨.mv (.l 0), some 3, none, []⟩,
    ⟨.mv (.l 1), some 4, none, []⟩]) (
  .seq (
  .seq (
  .reg [⟨.mv (.c (.int .i64 0)), some 5, none, []⟩]) (
  .block 0 (
   .loopS [1, 2, 3, 4, 5] 13 (
    .seq (
    .seq (
    .reg [⟨.mv (.v 5), none, none, []⟩,
      ⟨.fieldAddr 0 (.v 1), none, none, []⟩,
      ⟨.load false 1 (.l 1), none, none, []⟩,
      ⟨.len false (.l 2), none, none, []⟩,
      ⟨.bin .lss false (.l 0) (.l 3), none, none, []⟩,
      ⟨.mv (.l 4), none, none, []⟩,
      ⟨.mv (.v 5), none, some ((.l 5), true), []⟩,
      ⟨.bin .lss false (.l 6) (.c (.int .i64 24)), none, some ((.l 5), true), []⟩,
      ⟨.pick (.l 5) (.l 7) (.c (.bool false)), some 7, none, []⟩]) (
    .cond (.v 7) (
     .skip) (
     .exit 0))) (
    .seq (
    .block 1 (
     .seq (
     .reg [⟨.fieldAddr 0 (.v 1), none, none, [4]⟩,
       ⟨.load false 1 (.l 0), none, none, [4]⟩,
       ⟨.mv (.v 5), none, none, [4]⟩,
       ⟨.indexAddr 3 (.l 1) (.l 2), none, none, [4]⟩,
       ⟨.indexAddrA 3 1 (.l 3) (.c (.int .i64 1)), none, none, [4]⟩,
       ⟨.load false 1 (.l 4), none, none, [4]⟩,
       ⟨.conv .i64 (.l 5), none, none, [4]⟩,
       ⟨.bin .rem false (.l 6) (.c (.int .i64 48)), none, none, [4]⟩,
       ⟨.fieldAddr 0 (.v 1), none, none, [4]⟩,
       ⟨.load false 1 (.l 8), none, none, [4]⟩,
       ⟨.mv (.v 5), none, none, [4]⟩,
       ⟨.indexAddr 3 (.l 9) (.l 10), none, none, [4]⟩,
       ⟨.indexAddrA 3 1 (.l 11) (.c (.int .i64 2)), none, none, [4]⟩,
       ⟨.load false 1 (.l 12), none, none, [4]⟩,
       ⟨.conv .i64 (.l 13), none, none, [4]⟩,
       ⟨.bin .rem false (.l 14) (.c (.int .i64 12)), none, none, [4]⟩,
       ⟨.build [(.int .i64 0), (.int .i64 0)] [(0, 1, (.l 7)), (1, 1, (.l 15))], none, none, [4]⟩,
       ⟨.alloc 4 [(.int .i64 0), (.int .i64 0)], some 6, none, []⟩,
       ⟨.store 2 (.l 17) (.l 16), none, none, []⟩]) (
     .seq (
     .reg [⟨.fieldAddr 0 (.v 1), none, none, []⟩,
       ⟨.load false 1 (.l 0), none, none, []⟩,
       ⟨.mv (.v 5), none, none, []⟩,
       ⟨.indexAddr 3 (.l 1) (.l 2), none, none, []⟩,
       ⟨.indexAddrA 3 1 (.l 3) (.c (.int .i64 0)), none, none, []⟩,
       ⟨.load false 1 (.l 4), none, none, []⟩,
       ⟨.bin .rem false (.l 5) (.c (.int .u8 2)), none, none, []⟩,
       ⟨.bin .eql false (.l 6) (.c (.int .u8 0)), some 8, none, []⟩]) (
     .cond (.v 8) (
      .reg [⟨.mv (.v 3), none, none, []⟩,
        ⟨.load true 2 (.v 6), none, none, []⟩,
        ⟨.mkarr 5 2 [(.agg [(.int .i64 0), (.int .i64 0)])] [(0, (.l 1))], none, none, []⟩,
        ⟨.append 6 2 16 1 (.l 0) (.l 2), none, none, []⟩,
        ⟨.mv (.l 3), some 3, none, []⟩]) (
      .reg [⟨.mv (.v 4), none, none, []⟩,
        ⟨.load true 2 (.v 6), none, none, []⟩,
        ⟨.mkarr 7 2 [(.agg [(.int .i64 0), (.int .i64 0)])] [(0, (.l 1))], none, none, []⟩,
        ⟨.append 8 2 16 1 (.l 0) (.l 2), none, none, []⟩,
        ⟨.mv (.l 3), some 4, none, []⟩]))))) (
    .reg [⟨.mv (.v 5), none, none, []⟩,
      ⟨.bin .add false (.l 0) (.c (.int .i64 1)), none, none, []⟩,
      ⟨.mv (.l 1), some 5, none, []⟩])))))) (
  .seq (
  .reg [⟨.call 31 [(.c (.int .i64 48)), (.c (.int .i64 12))] [(0, 0), (0, 0), (9, 1)] true, none, none, []⟩,
    ⟨.mv (.v 3), none, none, []⟩,
    ⟨.call 30 [(.l 0), (.l 1)] [(0, 0), (0, 0), (10, 1)] true, none, none, []⟩,
    ⟨.field false 2 1 (.l 2), none, none, []⟩,
    ⟨.call 31 [(.c (.int .i64 48)), (.c (.int .i64 12))] [(0, 0), (0, 0), (11, 1)] true, none, none, []⟩,
    ⟨.mv (.v 4), none, none, []⟩,
    ⟨.call 30 [(.l 4), (.l 5)] [(0, 0), (0, 0), (12, 1)] true, none, none, []⟩,
    ⟨.field false 2 1 (.l 6), none, none, []⟩,
    ⟨.build [(.int .i64 0), (.int .i64 0), .nils, .nils] [(0, 1, (.c (.int .i64 48))), (1, 1, (.c (.int .i64 12))), (2, 1, (.l 3)), (3, 1, (.l 7))], none, none, []⟩,
    ⟨.store 4 (.v 2) (.l 8), none, none, []⟩]) (
  .ret))))⟩

def X12 : XFn :=
 ⟨27, [0, 2, 3, 4, 13], 3, [(1, none)],
  .seq (
  .reg [⟨.mv (.c .nils), some 1, none, []⟩]) (
  .seq (
  .reg [⟨.mkarr 0 1 [] [], none, none, []⟩,
    ⟨.mv (.l 0), some 2, none, []⟩]) (
  .seq (
  .seq (
  .reg [⟨.mv (.c (.int .i64 0)), some 3, none, []⟩]) (
  .block 0 (
   .loopS [0, 2, 3] 3 (
    .seq (
    .seq (
    .reg [⟨.mv (.v 3), none, none, []⟩,
      ⟨.mv (.v 0), none, none, []⟩,
      ⟨.len false (.l 1), none, none, []⟩,
      ⟨.bin .lss false (.l 0) (.l 2), none, none, []⟩,
      ⟨.mv (.l 3), none, none, []⟩,
      ⟨.mv (.v 3), none, some ((.l 4), true), []⟩,
      ⟨.bin .lss false (.l 5) (.c (.int .i64 4)), none, some ((.l 4), true), []⟩,
      ⟨.pick (.l 4) (.l 6) (.c (.bool false)), some 4, none, []⟩]) (
    .cond (.v 4) (
     .skip) (
     .exit 0))) (
    .seq (
    .block 1 (
     .reg [⟨.mv (.v 2), none, none, []⟩,
       ⟨.mv (.v 0), none, none, []⟩,
       ⟨.mv (.v 3), none, none, []⟩,
       ⟨.indexAddr 1 (.l 1) (.l 2), none, none, []⟩,
       ⟨.load false 1 (.l 3), none, none, []⟩,
       ⟨.conv .i64 (.l 4), none, none, []⟩,
       ⟨.bin .rem false (.l 5) (.c (.int .i64 100)), none, none, []⟩,
       ⟨.bin .sub false (.l 6) (.c (.int .i64 2)), none, none, []⟩,
       ⟨.mkarr 1 1 [(.int .i64 0)] [(0, (.l 7))], none, none, []⟩,
       ⟨.append 2 1 8 1 (.l 0) (.l 8), none, none, []⟩,
       ⟨.mv (.l 9), some 2, none, []⟩])) (
    .reg [⟨.mv (.v 3), none, none, []⟩,
      ⟨.bin .add false (.l 0) (.c (.int .i64 1)), none, none, []⟩,
      ⟨.mv (.l 1), some 3, none, []⟩])))))) (
  .seq (
  .reg [⟨.mv (.v 2), none, none, []⟩,
    ⟨.mv (.l 0), some 1, none, []⟩]) (
  .ret))))⟩

def X13 : XFn :=
 ⟨44, [0, 2, 3, 4, 13], 3, [(1, none)],
  .seq (
  .reg [⟨.mv (.c .nils), some 1, none, []⟩]) (
  .seq (
  .reg [⟨.mkarr 0 3 [] [], none, none, []⟩,
    ⟨.mv (.l 0), some 2, none, []⟩]) (
  .seq (
  .seq (
  .reg [⟨.mv (.c (.int .i64 0)), some 3, none, []⟩]) (
  .block 0 (
   .loopS [0, 2, 3] 3 (
    .seq (
    .seq (
    .reg [⟨.mv (.v 3), none, none, []⟩,
      ⟨.mv (.v 0), none, none, []⟩,
      ⟨.len false (.l 1), none, none, []⟩,
      ⟨.bin .lss false (.l 0) (.l 2), none, none, []⟩,
      ⟨.mv (.l 3), none, none, []⟩,
      ⟨.mv (.v 3), none, some ((.l 4), true), []⟩,
      ⟨.bin .lss false (.l 5) (.c (.int .i64 5)), none, some ((.l 4), true), []⟩,
      ⟨.pick (.l 4) (.l 6) (.c (.bool false)), some 4, none, []⟩]) (
    .cond (.v 4) (
     .skip) (
     .exit 0))) (
    .seq (
    .block 1 (
     .reg [⟨.mv (.v 2), none, none, [1]⟩,
       ⟨.mv (.v 0), none, none, []⟩,
       ⟨.mv (.v 3), none, none, []⟩,
       ⟨.indexAddr 3 (.l 1) (.l 2), none, none, []⟩,
       ⟨.indexAddrA 3 1 (.l 3) (.c (.int .i64 0)), none, none, []⟩,
       ⟨.load false 1 (.l 4), none, none, []⟩,
       ⟨.conv .i64 (.l 5), none, none, []⟩,
       ⟨.bin .rem false (.l 6) (.c (.int .i64 6)), none, none, []⟩,
       ⟨.mv (.v 0), none, none, []⟩,
       ⟨.mv (.v 3), none, none, []⟩,
       ⟨.indexAddr 3 (.l 8) (.l 9), none, none, []⟩,
       ⟨.indexAddrA 3 1 (.l 10) (.c (.int .i64 1)), none, none, []⟩,
       ⟨.load false 1 (.l 11), none, none, []⟩,
       ⟨.conv .i64 (.l 12), none, none, []⟩,
       ⟨.bin .rem false (.l 13) (.c (.int .i64 16)), none, none, []⟩,
       ⟨.bin .sub false (.l 14) (.c (.int .i64 1)), none, none, []⟩,
       ⟨.mv (.v 0), none, none, []⟩,
       ⟨.mv (.v 3), none, none, []⟩,
       ⟨.indexAddr 3 (.l 16) (.l 17), none, none, []⟩,
       ⟨.indexAddrA 3 1 (.l 18) (.c (.int .i64 2)), none, none, []⟩,
       ⟨.load false 1 (.l 19), none, none, []⟩,
       ⟨.conv .i64 (.l 20), none, none, []⟩,
       ⟨.bin .rem false (.l 21) (.c (.int .i64 100)), none, none, []⟩,
       ⟨.bin .sub false (.l 22) (.c (.int .i64 2)), none, none, []⟩,
       ⟨.build [(.int .i64 0), (.int .i64 0), (.int .i64 0)] [(0, 1, (.l 7)), (1, 1, (.l 15)), (2, 1, (.l 23))], none, none, []⟩,
       ⟨.mkarr 1 3 [(.agg [(.int .i64 0), (.int .i64 0), (.int .i64 0)])] [(0, (.l 24))], none, none, []⟩,
       ⟨.append 2 3 24 1 (.l 0) (.l 25), none, none, []⟩,
       ⟨.mv (.l 26), some 2, none, []⟩])) (
    .reg [⟨.mv (.v 3), none, none, []⟩,
      ⟨.bin .add false (.l 0) (.c (.int .i64 1)), none, none, []⟩,
      ⟨.mv (.l 1), some 3, none, []⟩])))))) (
  .seq (
  .reg [⟨.mv (.v 2), none, none, []⟩,
    ⟨.mv (.l 0), some 1, none, []⟩]) (
  .ret))))⟩

def X15 : XFn :=
 ⟨132, [0, 1, 2, 4, 5, 6, 7, 8, 9, 10, 11, 12, 22, 40, 46, 55, 60, 61, 65, 69, 99], 13, [(3, some (true, 7)), (4, none)],
  .seq (
  .reg [⟨.box 0 (.v 0), some 2, none, []⟩,
    ⟨.alloc 1 [(.int .i64 0), (.int .i64 0), .nils, .nils, (.int .i64 0), (.bool false), .nils], some 3, none, []⟩,
    ⟨.mv (.c (.int .i64 0)), some 4, none, []⟩]) (
  .seq (
  .reg [⟨.fieldAddr 0 (.v 2), none, none, []⟩,
    ⟨.load true 4 (.l 0), none, none, []⟩,
    ⟨.fieldAddr 4 (.v 2), none, none, []⟩,
    ⟨.load false 1 (.l 2), none, none, []⟩,
    ⟨.call 24 [(.l 1), (.l 3)] [(2, 3), (0, 0)] true, none, none, []⟩,
    ⟨.mv (.l 4), none, none, []⟩,
    ⟨.extract (.l 5) 0, none, none, []⟩,
    ⟨.extract (.l 5) 1, none, none, []⟩,
    ⟨.mv (.l 6), some 5, none, []⟩,
    ⟨.mv (.l 7), some 6, none, []⟩]) (
  .frz [(2, false)] (
  .seq (
  .seq (
  .reg [⟨.mv (.v 6), none, none, []⟩,
    ⟨.bin .neq false (.l 0) (.c (.int .i64 0)), some 12, none, []⟩]) (
  .cond (.v 12) (
   .seq (
   .reg [⟨.build [(.int .i64 0), (.int .i64 0), .nils, .nils, (.int .i64 0), (.bool false), .nils] [], none, none, []⟩,
     ⟨.mv (.v 6), none, none, []⟩,
     ⟨.store 7 (.v 3) (.l 0), none, none, []⟩,
     ⟨.mv (.l 1), some 4, none, []⟩]) (
   .ret)) (
   .skip))) (
  .seq (
  .reg [⟨.fieldAddr 0 (.v 2), none, none, [5, 7]⟩,
    ⟨.fieldAddr 0 (.l 0), none, none, [5, 7]⟩,
    ⟨.load false 1 (.l 1), none, none, [5, 7]⟩,
    ⟨.fieldAddr 0 (.v 2), none, none, [5, 7]⟩,
    ⟨.fieldAddr 1 (.l 3), none, none, [5, 7]⟩,
    ⟨.load false 1 (.l 4), none, none, [5, 7]⟩,
    ⟨.call 26 [(.l 2), (.l 5)] [(0, 0), (0, 0), (3, 1), (4, 1)] false, none, none, [5, 7]⟩,
    ⟨.mkarr 5 1 [] [], none, none, [3, 4, 7]⟩,
    ⟨.fieldAddr 5 (.v 2), none, none, [3, 4, 5, 7]⟩,
    ⟨.load false 1 (.l 8), none, none, [3, 4, 5, 7]⟩,
    ⟨.append 5 1 8 2 (.l 7) (.l 9), none, none, [7]⟩,
    ⟨.build [(.int .i64 0), (.int .i64 0), .nils, .nils, (.int .i64 0), (.bool false), .nils] [(0, 4, (.l 6)), (6, 1, (.l 10))], none, none, [7]⟩,
    ⟨.alloc 7 [(.int .i64 0), (.int .i64 0), .nils, .nils, (.int .i64 0), (.bool false), .nils], some 7, none, [3, 4, 5, 5]⟩,
    ⟨.store 7 (.l 12) (.l 11), none, none, []⟩,
    ⟨.mv (.c (.int .i64 0)), some 8, none, []⟩]) (
  .seq (
  .seq (
  .reg [⟨.mv (.c (.int .i64 0)), some 9, none, []⟩]) (
  .block 0 (
   .loopS [1, 2, 3, 5, 7, 8, 9] 13 (
    .seq (
    .seq (
    .reg [⟨.mv (.v 9), none, none, []⟩,
      ⟨.mv (.v 5), none, none, []⟩,
      ⟨.len false (.l 1), none, none, []⟩,
      ⟨.bin .lss false (.l 0) (.l 2), some 13, none, []⟩]) (
    .cond (.v 13) (
     .skip) (
     .exit 0))) (
    .seq (
    .block 1 (
     .seq (
     .seq (
     .reg [⟨.mv (.c (.int .i64 0)), some 10, none, []⟩]) (
     .block 2 (
      .loopS [1, 2, 3, 5, 7, 8, 9, 10] 13 (
       .seq (
       .seq (
       .reg [⟨.mv (.v 10), none, none, []⟩,
         ⟨.mv (.v 1), none, none, []⟩,
         ⟨.len false (.l 1), none, none, []⟩,
         ⟨.bin .lss false (.l 0) (.l 2), some 14, none, []⟩]) (
       .cond (.v 14) (
        .skip) (
        .exit 2))) (
       .seq (
       .block 3 (
        .seq (
        .seq (
        .reg [⟨.mv (.v 1), none, none, []⟩,
          ⟨.mv (.v 10), none, none, []⟩,
          ⟨.indexAddr 3 (.l 0) (.l 1), none, none, []⟩,
          ⟨.fieldAddr 1 (.l 2), none, none, []⟩,
          ⟨.load false 1 (.l 3), none, none, []⟩,
          ⟨.mv (.v 9), none, none, []⟩,
          ⟨.bin .neq false (.l 4) (.l 5), some 15, none, []⟩]) (
        .cond (.v 15) (
         .exit 3) (
         .skip))) (
        .seq (
        .reg [⟨.mv (.v 1), none, none, []⟩,
          ⟨.mv (.v 10), none, none, []⟩,
          ⟨.indexAddr 3 (.l 0) (.l 1), none, none, []⟩,
          ⟨.fieldAddr 0 (.l 2), none, none, []⟩,
          ⟨.load false 1 (.l 3), some 16, none, []⟩]) (
        .block 4 (
         .seq (
         .seq (
         .reg [⟨.bin .eql false (.v 16) (.c (.int .i64 1)), none, none, []⟩,
           ⟨.mv (.l 0), some 17, none, []⟩]) (
         .cond (.v 17) (
          .skip) (
          .reg [⟨.bin .eql false (.v 16) (.c (.int .i64 4)), none, none, []⟩,
            ⟨.mv (.l 0), some 17, none, []⟩]))) (
         .cond (.v 17) (
          .seq (
          .reg [⟨.load true 7 (.v 7), none, none, []⟩,
            ⟨.store 7 (.v 3) (.l 0), none, none, []⟩,
            ⟨.mv (.c (.int .i64 0)), some 4, none, []⟩]) (
          .ret)) (
          .seq (
          .reg [⟨.bin .eql false (.v 16) (.c (.int .i64 2)), none, none, []⟩,
            ⟨.mv (.l 0), some 18, none, []⟩]) (
          .cond (.v 18) (
           .reg [⟨.mv (.v 8), none, none, []⟩,
             ⟨.bin .add false (.l 0) (.c (.int .i64 1)), none, none, []⟩,
             ⟨.mv (.l 1), some 8, none, []⟩]) (
           .seq (
           .reg [⟨.bin .eql false (.v 16) (.c (.int .i64 3)), none, none, []⟩,
             ⟨.mv (.l 0), some 19, none, []⟩]) (
           .cond (.v 19) (
            .seq (
            .reg [⟨.mv (.v 1), none, none, []⟩,
              ⟨.mv (.v 10), none, none, []⟩,
              ⟨.indexAddr 3 (.l 0) (.l 1), none, none, []⟩,
              ⟨.fieldAddr 2 (.l 2), none, none, []⟩,
              ⟨.load false 1 (.l 3), none, none, []⟩,
              ⟨.bin .geq false (.l 4) (.c (.int .i64 0)), none, none, []⟩,
              ⟨.mv (.l 5), none, none, []⟩,
              ⟨.mv (.v 1), none, some ((.l 6), true), []⟩,
              ⟨.mv (.v 10), none, some ((.l 6), true), []⟩,
              ⟨.indexAddr 3 (.l 7) (.l 8), none, some ((.l 6), true), []⟩,
              ⟨.fieldAddr 2 (.l 9), none, some ((.l 6), true), []⟩,
              ⟨.load false 1 (.l 10), none, some ((.l 6), true), []⟩,
              ⟨.fieldAddr 0 (.v 2), none, some ((.l 6), true), []⟩,
              ⟨.fieldAddr 0 (.l 12), none, some ((.l 6), true), []⟩,
              ⟨.load false 1 (.l 13), none, some ((.l 6), true), []⟩,
              ⟨.bin .mul false (.c (.int .i64 2)) (.l 14), none, some ((.l 6), true), []⟩,
              ⟨.bin .lss false (.l 11) (.l 15), none, some ((.l 6), true), []⟩,
              ⟨.pick (.l 6) (.l 16) (.c (.bool false)), none, none, []⟩,
              ⟨.mv (.l 17), none, none, []⟩,
              ⟨.fieldAddr 6 (.v 7), none, some ((.l 18), true), []⟩,
              ⟨.load false 1 (.l 19), none, some ((.l 18), true), []⟩,
              ⟨.mv (.v 1), none, some ((.l 18), true), []⟩,
              ⟨.mv (.v 10), none, some ((.l 18), true), []⟩,
              ⟨.indexAddr 3 (.l 21) (.l 22), none, some ((.l 18), true), []⟩,
              ⟨.fieldAddr 2 (.l 23), none, some ((.l 18), true), []⟩,
              ⟨.load false 1 (.l 24), none, some ((.l 18), true), []⟩,
              ⟨.call 37 [(.l 20), (.l 25)] [(0, 0)] false, none, some ((.l 18), true), []⟩,
              ⟨.un .not (.l 26), none, some ((.l 18), true), []⟩,
              ⟨.pick (.l 18) (.l 27) (.c (.bool false)), some 20, none, []⟩]) (
            .cond (.v 20) (
             .reg [⟨.fieldAddr 6 (.v 7), none, none, [8]⟩,
               ⟨.load false 1 (.l 0), none, none, [8]⟩,
               ⟨.mv (.v 1), none, none, []⟩,
               ⟨.mv (.v 10), none, none, []⟩,
               ⟨.indexAddr 3 (.l 2) (.l 3), none, none, []⟩,
               ⟨.fieldAddr 2 (.l 4), none, none, []⟩,
               ⟨.load false 1 (.l 5), none, none, []⟩,
               ⟨.mkarr 8 1 [(.int .i64 0)] [(0, (.l 6))], none, none, []⟩,
               ⟨.append 9 1 8 1 (.l 1) (.l 7), none, none, []⟩,
               ⟨.fieldAddr 6 (.v 7), none, none, []⟩,
               ⟨.store 1 (.l 9) (.l 8), none, none, []⟩]) (
             .skip))) (
            .skip))))))))))) (
       .reg [⟨.mv (.v 10), none, none, []⟩,
         ⟨.bin .add false (.l 0) (.c (.int .i64 1)), none, none, []⟩,
         ⟨.mv (.l 1), some 10, none, []⟩])))))) (
     .seq (
     .reg [⟨.mv (.v 5), none, none, []⟩,
       ⟨.mv (.v 9), none, none, []⟩,
       ⟨.indexAddr 3 (.l 0) (.l 1), none, none, []⟩,
       ⟨.load true 3 (.l 2), none, none, []⟩,
       ⟨.alloc 10 [(.int .i64 0), .nils, .nils], some 11, none, []⟩,
       ⟨.store 3 (.l 4) (.l 3), none, none, []⟩]) (
     .seq (
     .reg [⟨.fieldAddr 0 (.v 11), none, none, []⟩,
       ⟨.load false 1 (.l 0), none, none, []⟩,
       ⟨.mv (.v 8), none, none, []⟩,
       ⟨.bin .add false (.l 1) (.l 2), none, none, []⟩,
       ⟨.fieldAddr 0 (.v 11), none, none, []⟩,
       ⟨.store 1 (.l 4) (.l 3), none, none, []⟩]) (
     .seq (
     .reg [⟨.fieldAddr 0 (.v 7), none, none, []⟩,
       ⟨.load true 4 (.l 0), none, none, []⟩,
       ⟨.load true 3 (.v 11), none, none, []⟩,
       ⟨.fieldAddr 6 (.v 7), none, none, []⟩,
       ⟨.load false 1 (.l 3), none, none, []⟩,
       ⟨.call 38 [(.l 1), (.l 2), (.l 4)] [(0, 0), (0, 0), (11, 1), (12, 1)] true, none, none, []⟩,
       ⟨.fieldAddr 0 (.v 7), none, none, []⟩,
       ⟨.store 4 (.l 6) (.l 5), none, none, []⟩]) (
     .reg [⟨.fieldAddr 4 (.v 7), none, none, []⟩,
       ⟨.load false 1 (.l 0), none, none, []⟩,
       ⟨.bin .add false (.l 1) (.c (.int .i64 1)), none, none, []⟩,
       ⟨.fieldAddr 4 (.v 7), none, none, []⟩,
       ⟨.store 1 (.l 3) (.l 2), none, none, []⟩])))))) (
    .reg [⟨.mv (.v 9), none, none, []⟩,
      ⟨.bin .add false (.l 0) (.c (.int .i64 1)), none, none, []⟩,
      ⟨.mv (.l 1), some 9, none, []⟩])))))) (
  .seq (
  .reg [⟨.fieldAddr 5 (.v 7), none, none, []⟩,
    ⟨.store 1 (.l 0) (.c (.bool true)), none, none, []⟩]) (
  .seq (
  .reg [⟨.load true 7 (.v 7), none, none, []⟩,
    ⟨.store 7 (.v 3) (.l 0), none, none, []⟩,
    ⟨.mv (.c (.int .i64 0)), some 4, none, []⟩]) (
  .ret))))))))⟩

def X16 : XFn :=
 ⟨50, [0, 1, 2, 3, 4, 5, 12, 17, 30], 2, [(4, none)],
  .seq (
  .reg [⟨.box 0 (.v 0), some 2, none, []⟩,
    ⟨.box 1 (.v 1), some 3, none, []⟩,
    ⟨.mv (.c (.bool false)), some 4, none, []⟩]) (
  .seq (
  .seq (
  .reg [⟨.fieldAddr 6 (.v 2), none, none, []⟩,
    ⟨.load false 1 (.l 0), none, none, []⟩,
    ⟨.len false (.l 1), none, none, []⟩,
    ⟨.fieldAddr 6 (.v 3), none, none, []⟩,
    ⟨.load false 1 (.l 3), none, none, []⟩,
    ⟨.len false (.l 4), none, none, []⟩,
    ⟨.bin .neq false (.l 2) (.l 5), some 6, none, []⟩]) (
  .cond (.v 6) (
   .seq (
   .reg [⟨.mv (.c (.bool false)), some 4, none, []⟩]) (
   .ret)) (
   .skip))) (
  .seq (
  .seq (
  .reg [⟨.mv (.c (.int .i64 0)), some 5, none, []⟩]) (
  .block 0 (
   .loopS [2, 3, 5] 2 (
    .seq (
    .seq (
    .reg [⟨.mv (.v 5), none, none, []⟩,
      ⟨.fieldAddr 6 (.v 2), none, none, []⟩,
      ⟨.load false 1 (.l 1), none, none, []⟩,
      ⟨.len false (.l 2), none, none, []⟩,
      ⟨.bin .lss false (.l 0) (.l 3), some 7, none, []⟩]) (
    .cond (.v 7) (
     .skip) (
     .exit 0))) (
    .seq (
    .block 1 (
     .seq (
     .reg [⟨.fieldAddr 6 (.v 2), none, none, []⟩,
       ⟨.load false 1 (.l 0), none, none, []⟩,
       ⟨.mv (.v 5), none, none, []⟩,
       ⟨.indexAddr 1 (.l 1) (.l 2), none, none, []⟩,
       ⟨.load false 1 (.l 3), none, none, []⟩,
       ⟨.fieldAddr 6 (.v 3), none, none, []⟩,
       ⟨.load false 1 (.l 5), none, none, []⟩,
       ⟨.mv (.v 5), none, none, []⟩,
       ⟨.indexAddr 1 (.l 6) (.l 7), none, none, []⟩,
       ⟨.load false 1 (.l 8), none, none, []⟩,
       ⟨.bin .neq false (.l 4) (.l 9), some 8, none, []⟩]) (
     .cond (.v 8) (
      .seq (
      .reg [⟨.mv (.c (.bool false)), some 4, none, []⟩]) (
      .ret)) (
      .skip)))) (
    .reg [⟨.mv (.v 5), none, none, []⟩,
      ⟨.bin .add false (.l 0) (.c (.int .i64 1)), none, none, []⟩,
      ⟨.mv (.l 1), some 5, none, []⟩])))))) (
  .seq (
  .reg [⟨.fieldAddr 0 (.v 2), none, none, []⟩,
    ⟨.load true 4 (.l 0), none, none, []⟩,
    ⟨.fieldAddr 0 (.v 3), none, none, []⟩,
    ⟨.load true 4 (.l 2), none, none, []⟩,
    ⟨.call 17 [(.l 1), (.l 3)] [(0, 0)] true, none, none, []⟩,
    ⟨.mv (.l 4), none, none, []⟩,
    ⟨.fieldAddr 4 (.v 2), none, some ((.l 5), true), []⟩,
    ⟨.load false 1 (.l 6), none, some ((.l 5), true), []⟩,
    ⟨.fieldAddr 4 (.v 3), none, some ((.l 5), true), []⟩,
    ⟨.load false 1 (.l 8), none, some ((.l 5), true), []⟩,
    ⟨.bin .eql false (.l 7) (.l 9), none, some ((.l 5), true), []⟩,
    ⟨.pick (.l 5) (.l 10) (.c (.bool false)), none, none, []⟩,
    ⟨.mv (.l 11), none, none, []⟩,
    ⟨.fieldAddr 5 (.v 2), none, some ((.l 12), true), []⟩,
    ⟨.load false 1 (.l 13), none, some ((.l 12), true), []⟩,
    ⟨.fieldAddr 5 (.v 3), none, some ((.l 12), true), []⟩,
    ⟨.load false 1 (.l 15), none, some ((.l 12), true), []⟩,
    ⟨.bin .eql true (.l 14) (.l 16), none, some ((.l 12), true), []⟩,
    ⟨.pick (.l 12) (.l 17) (.c (.bool false)), none, none, []⟩,
    ⟨.mv (.l 18), some 4, none, []⟩]) (
  .ret))))⟩

def X17 : XFn :=
 ⟨17, [0, 1, 2, 3, 4], 6, [(4, none)],
  .seq (
  .reg [⟨.box 0 (.v 0), some 2, none, []⟩,
    ⟨.box 1 (.v 1), some 3, none, []⟩,
    ⟨.mv (.c (.bool false)), some 4, none, []⟩]) (
  .seq (
  .reg [⟨.load true 4 (.v 2), none, none, []⟩,
    ⟨.call 40 [(.l 0)] [(0, 0), (0, 0), (2, 1)] false, none, none, []⟩,
    ⟨.load true 4 (.v 3), none, none, [2]⟩,
    ⟨.call 40 [(.l 2)] [(0, 0), (0, 0), (3, 1)] false, none, none, []⟩,
    ⟨.call 39 [(.l 1), (.l 3)] [(0, 0)] false, none, none, []⟩,
    ⟨.mv (.l 4), none, none, []⟩,
    ⟨.load true 4 (.v 2), none, some ((.l 5), true), []⟩,
    ⟨.call 41 [(.l 6)] [(0, 0), (0, 0), (4, 1)] false, none, some ((.l 5), true), []⟩,
    ⟨.load true 4 (.v 3), none, some ((.l 5), true), [4]⟩,
    ⟨.call 41 [(.l 8)] [(0, 0), (0, 0), (5, 1)] false, none, some ((.l 5), true), []⟩,
    ⟨.call 39 [(.l 7), (.l 9)] [(0, 0)] false, none, some ((.l 5), true), []⟩,
    ⟨.pick (.l 5) (.l 10) (.c (.bool false)), none, none, []⟩,
    ⟨.mv (.l 11), some 4, none, []⟩]) (
  .ret))⟩

def X18 : XFn :=
 ⟨13, [0, 1, 2, 3, 4], 2, [(4, none)],
  .seq (
  .reg [⟨.box 0 (.v 0), some 2, none, []⟩,
    ⟨.box 1 (.v 1), some 3, none, []⟩,
    ⟨.mv (.c (.bool false)), some 4, none, []⟩]) (
  .seq (
  .reg [⟨.fieldAddr 5 (.v 3), none, none, []⟩,
    ⟨.load false 1 (.l 0), none, none, []⟩,
    ⟨.mv (.l 1), none, none, []⟩,
    ⟨.fieldAddr 0 (.v 3), none, some ((.l 2), true), []⟩,
    ⟨.load true 4 (.l 3), none, some ((.l 2), true), []⟩,
    ⟨.load true 4 (.v 2), none, some ((.l 2), true), []⟩,
    ⟨.call 42 [(.l 4), (.l 5)] [(0, 0)] true, none, some ((.l 2), true), []⟩,
    ⟨.pick (.l 2) (.l 6) (.c (.bool false)), none, none, []⟩,
    ⟨.mv (.l 7), some 4, none, []⟩]) (
  .ret))⟩

def X19 : XFn :=
 ⟨13, [0, 1, 2, 3, 4], 2, [(4, none)],
  .seq (
  .reg [⟨.box 0 (.v 0), some 2, none, []⟩,
    ⟨.box 1 (.v 1), some 3, none, []⟩,
    ⟨.mv (.c (.bool false)), some 4, none, []⟩]) (
  .seq (
  .reg [⟨.fieldAddr 5 (.v 3), none, none, []⟩,
    ⟨.load false 1 (.l 0), none, none, []⟩,
    ⟨.mv (.l 1), none, none, []⟩,
    ⟨.fieldAddr 0 (.v 3), none, some ((.l 2), true), []⟩,
    ⟨.load true 4 (.l 3), none, some ((.l 2), true), []⟩,
    ⟨.load true 4 (.v 2), none, some ((.l 2), true), []⟩,
    ⟨.call 17 [(.l 4), (.l 5)] [(0, 0)] true, none, some ((.l 2), true), []⟩,
    ⟨.pick (.l 2) (.l 6) (.c (.bool false)), none, none, []⟩,
    ⟨.mv (.l 7), some 4, none, []⟩]) (
  .ret))⟩

def X21 : XFn :=
 ⟨104, [0, 1, 2, 3, 4, 5, 6, 7, 8, 33, 35, 36, 37, 40, 41, 42, 61, 70, 71, 72, 91], 6, [(4, none)],
  .seq (
  .reg [⟨.box 0 (.v 0), some 2, none, []⟩,
    ⟨.box 1 (.v 1), some 3, none, []⟩,
    ⟨.mv (.c .nils), some 4, none, []⟩]) (
  .seq (
  .seq (
  .reg [⟨.load true 4 (.v 2), none, none, []⟩,
    ⟨.call 43 [(.l 0)] [(0, 0)] true, none, none, []⟩,
    ⟨.un .not (.l 1), none, none, []⟩,
    ⟨.mv (.l 2), none, none, []⟩,
    ⟨.fieldAddr 0 (.v 3), none, some ((.l 3), false), []⟩,
    ⟨.load true 4 (.l 4), none, some ((.l 3), false), []⟩,
    ⟨.call 43 [(.l 5)] [(0, 0)] true, none, some ((.l 3), false), []⟩,
    ⟨.un .not (.l 6), none, some ((.l 3), false), []⟩,
    ⟨.pick (.l 3) (.c (.bool true)) (.l 7), none, none, []⟩,
    ⟨.mv (.l 8), none, none, []⟩,
    ⟨.fieldAddr 0 (.v 2), none, some ((.l 9), false), []⟩,
    ⟨.load false 1 (.l 10), none, some ((.l 9), false), []⟩,
    ⟨.fieldAddr 0 (.v 3), none, some ((.l 9), false), []⟩,
    ⟨.fieldAddr 0 (.l 12), none, some ((.l 9), false), []⟩,
    ⟨.load false 1 (.l 13), none, some ((.l 9), false), []⟩,
    ⟨.bin .neq false (.l 11) (.l 14), none, some ((.l 9), false), []⟩,
    ⟨.pick (.l 9) (.c (.bool true)) (.l 15), none, none, []⟩,
    ⟨.mv (.l 16), none, none, []⟩,
    ⟨.fieldAddr 1 (.v 2), none, some ((.l 17), false), []⟩,
    ⟨.load false 1 (.l 18), none, some ((.l 17), false), []⟩,
    ⟨.fieldAddr 0 (.v 3), none, some ((.l 17), false), []⟩,
    ⟨.fieldAddr 1 (.l 20), none, some ((.l 17), false), []⟩,
    ⟨.load false 1 (.l 21), none, some ((.l 17), false), []⟩,
    ⟨.bin .neq false (.l 19) (.l 22), none, some ((.l 17), false), []⟩,
    ⟨.pick (.l 17) (.c (.bool true)) (.l 23), some 9, none, []⟩]) (
  .cond (.v 9) (
   .seq (
   .reg [⟨.mv (.c .nils), some 4, none, []⟩]) (
   .ret)) (
   .skip))) (
  .seq (
  .reg [⟨.mv (.c .nils), some 5, none, []⟩]) (
  .mat 5 none 3 2 (
  .seq (
  .seq (
  .reg [⟨.fieldAddr 1 (.v 2), none, none, []⟩,
    ⟨.load false 1 (.l 0), some 10, none, []⟩,
    ⟨.mv (.c (.int .i64 0)), some 11, none, []⟩]) (
  .block 0 (
   .loopS [2, 3, 5, 10, 11] 6 (
    .seq (
    .reg [⟨.bin .lss false (.v 11) (.v 10), some 12, none, []⟩]) (
    .seq (
    .cond (.v 12) (
     .skip) (
     .exit 0)) (
    .seq (
    .block 1 (
     .seq (
     .reg [⟨.mv (.v 11), none, none, []⟩,
       ⟨.mv (.l 0), some 6, none, []⟩]) (
     .seq (
     .seq (
     .reg [⟨.fieldAddr 0 (.v 2), none, none, []⟩,
       ⟨.load false 1 (.l 0), some 13, none, []⟩,
       ⟨.mv (.c (.int .i64 0)), some 14, none, []⟩]) (
     .block 2 (
      .loopS [2, 3, 5, 6, 10, 11, 13, 14] 6 (
       .seq (
       .reg [⟨.bin .lss false (.v 14) (.v 13), some 15, none, []⟩]) (
       .seq (
       .cond (.v 15) (
        .skip) (
        .exit 2)) (
       .seq (
       .block 3 (
        .seq (
        .reg [⟨.mv (.v 14), none, none, []⟩,
          ⟨.mv (.l 0), some 7, none, []⟩]) (
        .seq (
        .reg [⟨.fieldAddr 2 (.v 2), none, none, []⟩,
          ⟨.load false 1 (.l 0), none, none, []⟩,
          ⟨.mv (.v 6), none, none, []⟩,
          ⟨.indexAddr 1 (.l 1) (.l 2), none, none, []⟩,
          ⟨.load false 1 (.l 3), none, none, []⟩,
          ⟨.mv (.v 7), none, none, []⟩,
          ⟨.indexAddr 1 (.l 4) (.l 5), none, none, []⟩,
          ⟨.load false 1 (.l 6), none, none, []⟩,
          ⟨.fieldAddr 0 (.v 3), none, none, []⟩,
          ⟨.fieldAddr 2 (.l 8), none, none, []⟩,
          ⟨.load false 1 (.l 9), none, none, []⟩,
          ⟨.mv (.v 6), none, none, []⟩,
          ⟨.indexAddr 1 (.l 10) (.l 11), none, none, []⟩,
          ⟨.load false 1 (.l 12), none, none, []⟩,
          ⟨.mv (.v 7), none, none, []⟩,
          ⟨.indexAddr 1 (.l 13) (.l 14), none, none, []⟩,
          ⟨.load false 1 (.l 15), none, none, []⟩,
          ⟨.bin .neq true (.l 7) (.l 16), some 16, none, []⟩]) (
        .cond (.v 16) (
         .reg [⟨.mv (.v 5), none, none, []⟩,
           ⟨.mv (.v 7), none, none, []⟩,
           ⟨.mv (.v 6), none, none, []⟩,
           ⟨.build [(.int .i64 0), (.int .i64 0)] [(0, 1, (.l 1)), (1, 1, (.l 2))], none, none, []⟩,
           ⟨.mkarr 2 2 [(.agg [(.int .i64 0), (.int .i64 0)])] [(0, (.l 3))], none, none, []⟩,
           ⟨.append 3 2 16 1 (.l 0) (.l 4), none, none, []⟩,
           ⟨.mv (.l 5), some 5, none, []⟩]) (
         .skip))))) (
       .reg [⟨.bin .add false (.v 14) (.c (.int .i64 1)), none, none, []⟩,
         ⟨.mv (.l 0), some 14, none, []⟩]))))))) (
     .seq (
     .reg [⟨.fieldAddr 0 (.v 2), none, none, []⟩,
       ⟨.load false 1 (.l 0), some 17, none, []⟩,
       ⟨.mv (.c (.int .i64 0)), some 18, none, []⟩]) (
     .block 4 (
      .loopS [2, 3, 5, 6, 10, 11, 17, 18] 6 (
       .seq (
       .reg [⟨.bin .lss false (.v 18) (.v 17), some 19, none, []⟩]) (
       .seq (
       .cond (.v 19) (
        .skip) (
        .exit 4)) (
       .seq (
       .block 5 (
        .seq (
        .reg [⟨.mv (.v 18), none, none, []⟩,
          ⟨.mv (.l 0), some 8, none, []⟩]) (
        .seq (
        .reg [⟨.fieldAddr 3 (.v 2), none, none, []⟩,
          ⟨.load false 1 (.l 0), none, none, []⟩,
          ⟨.mv (.v 6), none, none, []⟩,
          ⟨.indexAddr 1 (.l 1) (.l 2), none, none, []⟩,
          ⟨.load false 1 (.l 3), none, none, []⟩,
          ⟨.mv (.v 8), none, none, []⟩,
          ⟨.indexAddr 1 (.l 4) (.l 5), none, none, []⟩,
          ⟨.load false 1 (.l 6), none, none, []⟩,
          ⟨.fieldAddr 0 (.v 3), none, none, []⟩,
          ⟨.fieldAddr 3 (.l 8), none, none, []⟩,
          ⟨.load false 1 (.l 9), none, none, []⟩,
          ⟨.mv (.v 6), none, none, []⟩,
          ⟨.indexAddr 1 (.l 10) (.l 11), none, none, []⟩,
          ⟨.load false 1 (.l 12), none, none, []⟩,
          ⟨.mv (.v 8), none, none, []⟩,
          ⟨.indexAddr 1 (.l 13) (.l 14), none, none, []⟩,
          ⟨.load false 1 (.l 15), none, none, []⟩,
          ⟨.bin .neq true (.l 7) (.l 16), some 20, none, []⟩]) (
        .cond (.v 20) (
         .reg [⟨.mv (.v 5), none, none, []⟩,
           ⟨.fieldAddr 0 (.v 2), none, none, []⟩,
           ⟨.load false 1 (.l 1), none, none, []⟩,
           ⟨.mv (.v 8), none, none, []⟩,
           ⟨.bin .add false (.l 2) (.l 3), none, none, []⟩,
           ⟨.mv (.v 6), none, none, []⟩,
           ⟨.build [(.int .i64 0), (.int .i64 0)] [(0, 1, (.l 4)), (1, 1, (.l 5))], none, none, []⟩,
           ⟨.mkarr 4 2 [(.agg [(.int .i64 0), (.int .i64 0)])] [(0, (.l 6))], none, none, []⟩,
           ⟨.append 5 2 16 1 (.l 0) (.l 7), none, none, []⟩,
           ⟨.mv (.l 8), some 5, none, []⟩]) (
         .skip))))) (
       .reg [⟨.bin .add false (.v 18) (.c (.int .i64 1)), none, none, []⟩,
         ⟨.mv (.l 0), some 18, none, []⟩])))))))))) (
    .reg [⟨.bin .add false (.v 11) (.c (.int .i64 1)), none, none, []⟩,
      ⟨.mv (.l 0), some 11, none, []⟩]))))))) (
  .seq (
  .reg [⟨.mv (.v 5), none, none, []⟩,
    ⟨.mv (.l 0), some 4, none, []⟩]) (
  .ret))))))⟩

def X22 : XFn :=
 ⟨77, [0, 1, 2, 3, 4, 5, 6, 7, 8, 13, 20, 26, 69], 5, [(4, none)],
  .seq (
  .reg [⟨.box 0 (.v 0), some 2, none, []⟩,
    ⟨.box 1 (.v 1), some 3, none, []⟩,
    ⟨.mv (.c .nils), some 4, none, []⟩]) (
  .seq (
  .reg [⟨.mkarr 2 2 [] [], none, none, []⟩,
    ⟨.mv (.l 0), some 5, none, []⟩]) (
  .seq (
  .seq (
  .reg [⟨.mv (.c (.int .i64 0)), some 6, none, []⟩]) (
  .block 0 (
   .loopS [2, 3, 5, 6] 5 (
    .seq (
    .seq (
    .reg [⟨.mv (.v 6), none, none, []⟩,
      ⟨.fieldAddr 1 (.v 2), none, none, []⟩,
      ⟨.load false 1 (.l 1), none, none, []⟩,
      ⟨.bin .lss false (.l 0) (.l 2), some 9, none, []⟩]) (
    .cond (.v 9) (
     .skip) (
     .exit 0))) (
    .seq (
    .block 1 (
     .seq (
     .reg [⟨.mv (.c (.int .i64 0)), some 7, none, []⟩]) (
     .block 2 (
      .loopS [2, 3, 5, 6, 7] 5 (
       .seq (
       .seq (
       .reg [⟨.mv (.v 7), none, none, []⟩,
         ⟨.fieldAddr 0 (.v 2), none, none, []⟩,
         ⟨.load false 1 (.l 1), none, none, []⟩,
         ⟨.bin .mul false (.c (.int .i64 2)) (.l 2), none, none, []⟩,
         ⟨.bin .lss false (.l 0) (.l 3), some 10, none, []⟩]) (
       .cond (.v 10) (
        .skip) (
        .exit 2))) (
       .seq (
       .block 3 (
        .seq (
        .reg [⟨.mv (.c (.bool false)), some 8, none, []⟩]) (
        .seq (
        .seq (
        .reg [⟨.mv (.v 7), none, none, []⟩,
          ⟨.fieldAddr 0 (.v 2), none, none, []⟩,
          ⟨.load false 1 (.l 1), none, none, []⟩,
          ⟨.bin .lss false (.l 0) (.l 2), some 11, none, []⟩]) (
        .cond (.v 11) (
         .reg [⟨.fieldAddr 2 (.v 2), none, none, []⟩,
           ⟨.load false 1 (.l 0), none, none, []⟩,
           ⟨.mv (.v 6), none, none, []⟩,
           ⟨.indexAddr 1 (.l 1) (.l 2), none, none, []⟩,
           ⟨.load false 1 (.l 3), none, none, []⟩,
           ⟨.mv (.v 7), none, none, []⟩,
           ⟨.indexAddr 1 (.l 4) (.l 5), none, none, []⟩,
           ⟨.load false 1 (.l 6), none, none, []⟩,
           ⟨.fieldAddr 0 (.v 3), none, none, []⟩,
           ⟨.fieldAddr 2 (.l 8), none, none, []⟩,
           ⟨.load false 1 (.l 9), none, none, []⟩,
           ⟨.mv (.v 6), none, none, []⟩,
           ⟨.indexAddr 1 (.l 10) (.l 11), none, none, []⟩,
           ⟨.load false 1 (.l 12), none, none, []⟩,
           ⟨.mv (.v 7), none, none, []⟩,
           ⟨.indexAddr 1 (.l 13) (.l 14), none, none, []⟩,
           ⟨.load false 1 (.l 15), none, none, []⟩,
           ⟨.bin .neq true (.l 7) (.l 16), none, none, []⟩,
           ⟨.mv (.l 17), some 8, none, []⟩]) (
         .reg [⟨.fieldAddr 3 (.v 2), none, none, []⟩,
           ⟨.load false 1 (.l 0), none, none, []⟩,
           ⟨.mv (.v 6), none, none, []⟩,
           ⟨.indexAddr 1 (.l 1) (.l 2), none, none, []⟩,
           ⟨.load false 1 (.l 3), none, none, []⟩,
           ⟨.mv (.v 7), none, none, []⟩,
           ⟨.fieldAddr 0 (.v 2), none, none, []⟩,
           ⟨.load false 1 (.l 6), none, none, []⟩,
           ⟨.bin .sub false (.l 5) (.l 7), none, none, []⟩,
           ⟨.indexAddr 1 (.l 4) (.l 8), none, none, []⟩,
           ⟨.load false 1 (.l 9), none, none, []⟩,
           ⟨.fieldAddr 0 (.v 3), none, none, []⟩,
           ⟨.fieldAddr 3 (.l 11), none, none, []⟩,
           ⟨.load false 1 (.l 12), none, none, []⟩,
           ⟨.mv (.v 6), none, none, []⟩,
           ⟨.indexAddr 1 (.l 13) (.l 14), none, none, []⟩,
           ⟨.load false 1 (.l 15), none, none, []⟩,
           ⟨.mv (.v 7), none, none, []⟩,
           ⟨.fieldAddr 0 (.v 2), none, none, []⟩,
           ⟨.load false 1 (.l 18), none, none, []⟩,
           ⟨.bin .sub false (.l 17) (.l 19), none, none, []⟩,
           ⟨.indexAddr 1 (.l 16) (.l 20), none, none, []⟩,
           ⟨.load false 1 (.l 21), none, none, []⟩,
           ⟨.bin .neq true (.l 10) (.l 22), none, none, []⟩,
           ⟨.mv (.l 23), some 8, none, []⟩]))) (
        .seq (
        .reg [⟨.mv (.v 8), some 12, none, []⟩]) (
        .cond (.v 12) (
         .reg [⟨.mv (.v 5), none, none, []⟩,
           ⟨.mv (.v 7), none, none, []⟩,
           ⟨.mv (.v 6), none, none, []⟩,
           ⟨.build [(.int .i64 0), (.int .i64 0)] [(0, 1, (.l 1)), (1, 1, (.l 2))], none, none, []⟩,
           ⟨.mkarr 3 2 [(.agg [(.int .i64 0), (.int .i64 0)])] [(0, (.l 3))], none, none, []⟩,
           ⟨.append 4 2 16 1 (.l 0) (.l 4), none, none, []⟩,
           ⟨.mv (.l 5), some 5, none, []⟩]) (
         .skip)))))) (
       .reg [⟨.mv (.v 7), none, none, []⟩,
         ⟨.bin .add false (.l 0) (.c (.int .i64 1)), none, none, []⟩,
         ⟨.mv (.l 1), some 7, none, []⟩]))))))) (
    .reg [⟨.mv (.v 6), none, none, []⟩,
      ⟨.bin .add false (.l 0) (.c (.int .i64 1)), none, none, []⟩,
      ⟨.mv (.l 1), some 6, none, []⟩])))))) (
  .seq (
  .reg [⟨.mv (.v 5), none, none, []⟩,
    ⟨.mv (.l 0), some 4, none, []⟩]) (
  .ret))))⟩

def X23 : XFn :=
 ⟨7, [0, 2], 0, [(1, none)],
  .seq (
  .reg [⟨.mv (.c (.int .i64 0)), some 1, none, []⟩]) (
  .seq (
  .reg [⟨.mv (.v 0), none, none, []⟩,
    ⟨.conv .i64 (.l 0), none, none, []⟩,
    ⟨.bin .rem false (.l 1) (.c (.int .i64 16)), none, none, []⟩,
    ⟨.bin .add false (.c (.int .i64 1)) (.l 2), none, none, []⟩,
    ⟨.mv (.l 3), some 1, none, []⟩]) (
  .ret))⟩

def X27 : XFn :=
 ⟨71, [0, 1, 2, 4, 5, 6, 7, 16, 22], 5, [(3, some (true, 4))],
  .seq (
  .reg [⟨.box 0 (.v 0), some 2, none, []⟩,
    ⟨.alloc 1 [(.int .i64 0), (.int .i64 0), .nils, .nils], some 3, none, []⟩]) (
  .seq (
  .reg [⟨.fieldAddr 0 (.v 2), none, none, []⟩,
    ⟨.load false 1 (.l 0), none, none, []⟩,
    ⟨.fieldAddr 1 (.v 2), none, none, []⟩,
    ⟨.load false 1 (.l 2), none, none, []⟩,
    ⟨.call 26 [(.l 1), (.l 3)] [(0, 0), (0, 0), (2, 1), (3, 1)] true, none, none, []⟩,
    ⟨.alloc 4 [(.int .i64 0), (.int .i64 0), .nils, .nils], some 4, none, []⟩,
    ⟨.store 4 (.l 5) (.l 4), none, none, []⟩]) (
  .seq (
  .seq (
  .reg [⟨.mv (.c (.int .i64 0)), some 5, none, []⟩]) (
  .block 0 (
   .loopS [1, 2, 3, 4, 5] 5 (
    .seq (
    .seq (
    .reg [⟨.mv (.v 5), none, none, []⟩,
      ⟨.fieldAddr 1 (.v 2), none, none, []⟩,
      ⟨.load false 1 (.l 1), none, none, []⟩,
      ⟨.bin .lss false (.l 0) (.l 2), some 7, none, []⟩]) (
    .cond (.v 7) (
     .skip) (
     .exit 0))) (
    .seq (
    .block 1 (
     .seq (
     .reg [⟨.mv (.c (.int .i64 0)), some 6, none, []⟩]) (
     .block 2 (
      .loopS [1, 2, 3, 4, 5, 6] 5 (
       .seq (
       .seq (
       .reg [⟨.mv (.v 6), none, none, []⟩,
         ⟨.fieldAddr 0 (.v 2), none, none, []⟩,
         ⟨.load false 1 (.l 1), none, none, []⟩,
         ⟨.bin .lss false (.l 0) (.l 2), some 8, none, []⟩]) (
       .cond (.v 8) (
        .skip) (
        .exit 2))) (
       .seq (
       .block 3 (
        .seq (
        .reg [⟨.fieldAddr 2 (.v 4), none, none, []⟩,
          ⟨.load false 1 (.l 0), none, none, []⟩,
          ⟨.mv (.v 5), none, none, []⟩,
          ⟨.indexAddr 1 (.l 1) (.l 2), none, none, []⟩,
          ⟨.load false 1 (.l 3), none, none, []⟩,
          ⟨.mv (.v 6), none, none, []⟩,
          ⟨.fieldAddr 2 (.v 2), none, none, []⟩,
          ⟨.load false 1 (.l 6), none, none, []⟩,
          ⟨.mv (.v 5), none, none, []⟩,
          ⟨.indexAddr 1 (.l 7) (.l 8), none, none, []⟩,
          ⟨.load false 1 (.l 9), none, none, []⟩,
          ⟨.mv (.v 6), none, none, []⟩,
          ⟨.indexAddr 1 (.l 10) (.l 11), none, none, []⟩,
          ⟨.load false 1 (.l 12), none, none, []⟩,
          ⟨.mv (.l 13), none, none, []⟩,
          ⟨.mv (.v 1), none, some ((.l 14), true), []⟩,
          ⟨.mv (.v 6), none, some ((.l 14), true), []⟩,
          ⟨.call 37 [(.l 15), (.l 16)] [(0, 0)] false, none, some ((.l 14), true), []⟩,
          ⟨.un .not (.l 17), none, some ((.l 14), true), []⟩,
          ⟨.pick (.l 14) (.l 18) (.c (.bool false)), none, none, []⟩,
          ⟨.indexAddr 1 (.l 4) (.l 5), none, none, []⟩,
          ⟨.store 1 (.l 20) (.l 19), none, none, []⟩]) (
        .reg [⟨.fieldAddr 3 (.v 4), none, none, []⟩,
          ⟨.load false 1 (.l 0), none, none, []⟩,
          ⟨.mv (.v 5), none, none, []⟩,
          ⟨.indexAddr 1 (.l 1) (.l 2), none, none, []⟩,
          ⟨.load false 1 (.l 3), none, none, []⟩,
          ⟨.mv (.v 6), none, none, []⟩,
          ⟨.fieldAddr 3 (.v 2), none, none, []⟩,
          ⟨.load false 1 (.l 6), none, none, []⟩,
          ⟨.mv (.v 5), none, none, []⟩,
          ⟨.indexAddr 1 (.l 7) (.l 8), none, none, []⟩,
          ⟨.load false 1 (.l 9), none, none, []⟩,
          ⟨.mv (.v 6), none, none, []⟩,
          ⟨.indexAddr 1 (.l 10) (.l 11), none, none, []⟩,
          ⟨.load false 1 (.l 12), none, none, []⟩,
          ⟨.mv (.l 13), none, none, []⟩,
          ⟨.mv (.v 1), none, some ((.l 14), true), []⟩,
          ⟨.fieldAddr 0 (.v 2), none, some ((.l 14), true), []⟩,
          ⟨.load false 1 (.l 16), none, some ((.l 14), true), []⟩,
          ⟨.mv (.v 6), none, some ((.l 14), true), []⟩,
          ⟨.bin .add false (.l 17) (.l 18), none, some ((.l 14), true), []⟩,
          ⟨.call 37 [(.l 15), (.l 19)] [(0, 0)] false, none, some ((.l 14), true), []⟩,
          ⟨.un .not (.l 20), none, some ((.l 14), true), []⟩,
          ⟨.pick (.l 14) (.l 21) (.c (.bool false)), none, none, []⟩,
          ⟨.indexAddr 1 (.l 4) (.l 5), none, none, []⟩,
          ⟨.store 1 (.l 23) (.l 22), none, none, []⟩]))) (
       .reg [⟨.mv (.v 6), none, none, []⟩,
         ⟨.bin .add false (.l 0) (.c (.int .i64 1)), none, none, []⟩,
         ⟨.mv (.l 1), some 6, none, []⟩]))))))) (
    .reg [⟨.mv (.v 5), none, none, []⟩,
      ⟨.bin .add false (.l 0) (.c (.int .i64 1)), none, none, []⟩,
      ⟨.mv (.l 1), some 5, none, []⟩])))))) (
  .seq (
  .reg [⟨.load true 4 (.v 4), none, none, []⟩,
    ⟨.store 4 (.v 3) (.l 0), none, none, []⟩]) (
  .ret))))⟩

def X29 : XFn :=
 ⟨28, [0, 2, 3, 4, 10], 4, [(1, some (true, 4))],
  .seq (
  .reg [⟨.alloc 0 [(.int .i64 0), (.int .i64 0), .nils, .nils], some 1, none, []⟩]) (
  .seq (
  .reg [⟨.call 26 [(.c (.int .i64 48)), (.c (.int .i64 12))] [(0, 0), (0, 0), (1, 1), (2, 1)] true, none, none, []⟩,
    ⟨.alloc 3 [(.int .i64 0), (.int .i64 0), .nils, .nils], some 2, none, []⟩,
    ⟨.store 4 (.l 1) (.l 0), none, none, []⟩]) (
  .seq (
  .seq (
  .reg [⟨.mv (.c (.int .i64 0)), some 3, none, []⟩]) (
  .block 0 (
   .loopS [0, 1, 2, 3] 4 (
    .seq (
    .seq (
    .reg [⟨.mv (.v 3), none, none, []⟩,
      ⟨.bin .add false (.l 0) (.c (.int .i64 1)), none, none, []⟩,
      ⟨.mv (.v 0), none, none, []⟩,
      ⟨.len false (.l 2), none, none, []⟩,
      ⟨.bin .lss false (.l 1) (.l 3), some 4, none, []⟩]) (
    .cond (.v 4) (
     .skip) (
     .exit 0))) (
    .seq (
    .block 1 (
     .reg [⟨.fieldAddr 2 (.v 2), none, none, []⟩,
       ⟨.load false 1 (.l 0), none, none, []⟩,
       ⟨.mv (.v 0), none, none, []⟩,
       ⟨.mv (.v 3), none, none, []⟩,
       ⟨.bin .add false (.l 3) (.c (.int .i64 1)), none, none, []⟩,
       ⟨.indexAddr 1 (.l 2) (.l 4), none, none, []⟩,
       ⟨.load false 1 (.l 5), none, none, []⟩,
       ⟨.indexAddr 1 (.l 1) (.l 6), none, none, []⟩,
       ⟨.load false 1 (.l 7), none, none, []⟩,
       ⟨.mv (.v 0), none, none, []⟩,
       ⟨.mv (.v 3), none, none, []⟩,
       ⟨.indexAddr 1 (.l 9) (.l 10), none, none, []⟩,
       ⟨.load false 1 (.l 11), none, none, []⟩,
       ⟨.indexAddr 1 (.l 8) (.l 12), none, none, []⟩,
       ⟨.store 1 (.l 13) (.c (.bool true)), none, none, []⟩])) (
    .reg [⟨.mv (.v 3), none, none, []⟩,
      ⟨.bin .add false (.l 0) (.c (.int .i64 2)), none, none, []⟩,
      ⟨.mv (.l 1), some 3, none, []⟩])))))) (
  .seq (
  .reg [⟨.load true 4 (.v 2), none, none, []⟩,
    ⟨.store 4 (.v 1) (.l 0), none, none, []⟩]) (
  .ret))))⟩

def X38 : XFn :=
 ⟨38, [0, 1, 2, 3, 4, 6, 7, 8], 11, [(5, some (true, 4))],
  .seq (
  .reg [⟨.box 0 (.v 0), some 3, none, []⟩,
    ⟨.box 1 (.v 1), some 4, none, []⟩,
    ⟨.alloc 2 [(.int .i64 0), (.int .i64 0), .nils, .nils], some 5, none, []⟩]) (
  .seq (
  .reg [⟨.load true 4 (.v 3), none, none, [6]⟩,
    ⟨.call 40 [(.l 0)] [(0, 0), (0, 0), (3, 1)] false, none, none, [6]⟩,
    ⟨.fieldAddr 1 (.v 4), none, none, [3, 6]⟩,
    ⟨.load false 1 (.l 2), none, none, [3, 6]⟩,
    ⟨.fieldAddr 0 (.v 4), none, none, [3, 6]⟩,
    ⟨.load false 1 (.l 4), none, none, [3, 6]⟩,
    ⟨.mv (.v 2), none, none, [3, 6]⟩,
    ⟨.call 54 [(.l 3), (.c (.int .i64 0)), (.l 5), (.l 6)] [(4, 2)] false, none, none, [6]⟩,
    ⟨.call 30 [(.l 1), (.l 7)] [(0, 0), (0, 0), (5, 1)] false, none, none, [6]⟩,
    ⟨.alloc 6 [(.int .i64 0), (.int .i64 0), .nils], some 6, none, [3, 4, 5]⟩,
    ⟨.store 3 (.l 9) (.l 8), none, none, []⟩]) (
  .seq (
  .reg [⟨.load true 4 (.v 3), none, none, [10]⟩,
    ⟨.call 41 [(.l 0)] [(0, 0), (0, 0), (7, 1)] false, none, none, [10]⟩,
    ⟨.fieldAddr 2 (.v 4), none, none, [7, 10]⟩,
    ⟨.load false 1 (.l 2), none, none, [7, 10]⟩,
    ⟨.fieldAddr 0 (.v 3), none, none, [7, 10]⟩,
    ⟨.load false 1 (.l 4), none, none, [7, 10]⟩,
    ⟨.fieldAddr 0 (.v 4), none, none, [7, 10]⟩,
    ⟨.load false 1 (.l 6), none, none, [7, 10]⟩,
    ⟨.mv (.v 2), none, none, [7, 10]⟩,
    ⟨.call 54 [(.l 3), (.l 5), (.l 7), (.l 8)] [(8, 2)] false, none, none, [10]⟩,
    ⟨.call 30 [(.l 1), (.l 9)] [(0, 0), (0, 0), (9, 1)] false, none, none, [10]⟩,
    ⟨.alloc 10 [(.int .i64 0), (.int .i64 0), .nils], some 7, none, [7, 8, 9]⟩,
    ⟨.store 3 (.l 11) (.l 10), none, none, []⟩]) (
  .seq (
  .reg [⟨.fieldAddr 0 (.v 3), none, none, []⟩,
    ⟨.load false 1 (.l 0), none, none, []⟩,
    ⟨.fieldAddr 1 (.v 3), none, none, []⟩,
    ⟨.load false 1 (.l 2), none, none, []⟩,
    ⟨.fieldAddr 2 (.v 6), none, none, []⟩,
    ⟨.load false 1 (.l 4), none, none, []⟩,
    ⟨.fieldAddr 2 (.v 7), none, none, []⟩,
    ⟨.load false 1 (.l 6), none, none, []⟩,
    ⟨.build [(.int .i64 0), (.int .i64 0), .nils, .nils] [(0, 1, (.l 1)), (1, 1, (.l 3)), (2, 1, (.l 5)), (3, 1, (.l 7))], none, none, []⟩,
    ⟨.store 4 (.v 5) (.l 8), none, none, []⟩]) (
  .ret))))⟩

def X53 : XFn :=
 ⟨3, [0], 1, [(0, none)],
  .seq (
  .reg [⟨.mv (.c (.lit (.map none))), some 0, none, []⟩]) (
  .seq (
  .reg [⟨.makeMap 0, none, none, []⟩,
    ⟨.mapUpd 1 (.l 0) (.c (.int .i64 1)) (.c (.fn (.func 59) [] [])), none, none, []⟩,
    ⟨.mapUpd 1 (.l 0) (.c (.int .i64 2)) (.c (.fn (.func 60) [] [])), none, none, []⟩,
    ⟨.mapUpd 1 (.l 0) (.c (.int .i64 3)) (.c (.fn (.func 61) [] [])), none, none, []⟩,
    ⟨.mapUpd 1 (.l 0) (.c (.int .i64 4)) (.c (.fn (.func 59) [] [])), none, none, []⟩,
    ⟨.mv (.l 0), none, none, []⟩,
    ⟨.mv (.l 5), some 0, none, []⟩]) (
  .frz [(0, true)] (
  .ret)))⟩

def X14 : XFn :=
 ⟨118, [0, 1, 2, 3, 4, 8, 9, 10, 11, 12, 14, 16, 17, 19, 20, 21, 29, 42, 57, 58, 59, 60, 71, 78, 79, 80, 81, 95, 96, 97, 98, 107], 15, [(5, some (true, 7)), (6, none)],
  .seq (
  .reg [⟨.box 0 (.v 0), some 4, none, []⟩,
    ⟨.alloc 1 [(.int .i64 0), (.int .i64 0), .nils, .nils, (.int .i64 0), (.bool false), .nils], some 5, none, []⟩,
    ⟨.mv (.c (.int .i64 0)), some 6, none, []⟩]) (
  .seq (
  .reg [⟨.load true 4 (.v 4), none, none, []⟩,
    ⟨.mv (.v 1), none, none, []⟩,
    ⟨.call 32 [(.l 0), (.l 1)] [(2, 3), (0, 0)] true, none, none, []⟩,
    ⟨.mv (.l 2), none, none, []⟩,
    ⟨.extract (.l 3) 0, none, none, []⟩,
    ⟨.extract (.l 3) 1, none, none, []⟩,
    ⟨.mv (.l 4), some 7, none, []⟩,
    ⟨.mv (.l 5), some 8, none, []⟩]) (
  .seq (
  .seq (
  .reg [⟨.mv (.v 8), none, none, []⟩,
    ⟨.bin .neq false (.l 0) (.c (.int .i64 0)), some 16, none, []⟩]) (
  .cond (.v 16) (
   .seq (
   .reg [⟨.build [(.int .i64 0), (.int .i64 0), .nils, .nils, (.int .i64 0), (.bool false), .nils] [], none, none, []⟩,
     ⟨.mv (.v 8), none, none, []⟩,
     ⟨.store 7 (.v 5) (.l 0), none, none, []⟩,
     ⟨.mv (.l 1), some 6, none, []⟩]) (
   .ret)) (
   .skip))) (
  .seq (
  .reg [⟨.fieldAddr 0 (.v 4), none, none, []⟩,
    ⟨.load false 1 (.l 0), none, none, []⟩,
    ⟨.fieldAddr 1 (.v 4), none, none, []⟩,
    ⟨.load false 1 (.l 2), none, none, []⟩,
    ⟨.call 33 [(.l 1), (.l 3), (.c .nils)] [(0, 0), (0, 0), (3, 1), (4, 1), (0, 0), (0, 0)] true, none, none, []⟩,
    ⟨.mv (.l 4), none, none, []⟩,
    ⟨.extract (.l 5) 0, none, none, []⟩,
    ⟨.extract (.l 5) 1, none, none, []⟩,
    ⟨.extract (.l 5) 2, none, none, []⟩,
    ⟨.alloc 5 [(.int .i64 0), (.int .i64 0), .nils, .nils], some 9, none, []⟩,
    ⟨.store 4 (.l 9) (.l 6), none, none, []⟩,
    ⟨.mv (.l 7), none, none, []⟩,
    ⟨.mv (.l 8), some 8, none, []⟩]) (
  .seq (
  .seq (
  .reg [⟨.mv (.v 8), none, none, []⟩,
    ⟨.bin .neq false (.l 0) (.c (.int .i64 0)), some 17, none, []⟩]) (
  .cond (.v 17) (
   .seq (
   .reg [⟨.build [(.int .i64 0), (.int .i64 0), .nils, .nils, (.int .i64 0), (.bool false), .nils] [], none, none, []⟩,
     ⟨.mv (.v 8), none, none, []⟩,
     ⟨.store 7 (.v 5) (.l 0), none, none, []⟩,
     ⟨.mv (.l 1), some 6, none, []⟩]) (
   .ret)) (
   .skip))) (
  .seq (
  .reg [⟨.fieldAddr 0 (.v 4), none, none, []⟩,
    ⟨.load false 1 (.l 0), none, none, []⟩,
    ⟨.bin .mul false (.c (.int .i64 2)) (.l 1), none, none, []⟩,
    ⟨.makeSlice 6 1 1 (.bool false) (.l 2) (.l 2), none, none, []⟩,
    ⟨.build [(.int .i64 0), (.int .i64 0), .nils, .nils, (.int .i64 0), (.bool false), .nils, (.int .i64 0), .nils, (.bool false)] [(8, 1, (.l 3))], none, none, []⟩,
    ⟨.alloc 7 [(.int .i64 0), (.int .i64 0), .nils, .nils, (.int .i64 0), (.bool false), .nils, (.int .i64 0), .nils, (.bool false)], some 10, none, []⟩,
    ⟨.store 10 (.l 5) (.l 4), none, none, []⟩]) (
  .seq (
  .reg [⟨.load true 4 (.v 9), none, none, []⟩,
    ⟨.fieldAddr 0 (.v 10), none, none, []⟩,
    ⟨.fieldAddr 0 (.l 1), none, none, []⟩,
    ⟨.store 4 (.l 2) (.l 0), none, none, []⟩]) (
  .seq (
  .reg [⟨.mv (.v 2), none, none, []⟩,
    ⟨.call 34 [(.l 0)] [(8, 1)] true, none, none, []⟩,
    ⟨.fieldAddr 0 (.v 10), none, none, []⟩,
    ⟨.fieldAddr 6 (.l 2), none, none, []⟩,
    ⟨.store 1 (.l 3) (.l 1), none, none, []⟩]) (
  .seq (
  .seq (
  .reg [⟨.mv (.v 2), some 18, none, []⟩,
    ⟨.len false (.l 0), some 19, none, []⟩,
    ⟨.mv (.c (.int .i64 0)), some 20, none, []⟩]) (
  .block 0 (
   .loopS [3, 5, 7, 10, 18, 19, 20] 15 (
    .seq (
    .reg [⟨.bin .lss false (.v 20) (.v 19), some 21, none, []⟩]) (
    .seq (
    .cond (.v 21) (
     .skip) (
     .exit 0)) (
    .seq (
    .block 1 (
     .seq (
     .reg [⟨.indexAddr 1 (.v 18) (.v 20), none, none, []⟩,
       ⟨.load false 1 (.l 0), none, none, []⟩,
       ⟨.mv (.l 1), some 11, none, []⟩]) (
     .seq (
     .reg [⟨.mv (.v 11), none, none, []⟩,
       ⟨.bin .geq false (.l 0) (.c (.int .i64 0)), none, none, []⟩,
       ⟨.mv (.l 1), none, none, []⟩,
       ⟨.mv (.v 11), none, some ((.l 2), true), []⟩,
       ⟨.fieldAddr 8 (.v 10), none, some ((.l 2), true), []⟩,
       ⟨.load false 1 (.l 4), none, some ((.l 2), true), []⟩,
       ⟨.len false (.l 5), none, some ((.l 2), true), []⟩,
       ⟨.bin .lss false (.l 3) (.l 6), none, some ((.l 2), true), []⟩,
       ⟨.pick (.l 2) (.l 7) (.c (.bool false)), some 22, none, []⟩]) (
     .cond (.v 22) (
      .reg [⟨.fieldAddr 8 (.v 10), none, none, []⟩,
        ⟨.load false 1 (.l 0), none, none, []⟩,
        ⟨.mv (.v 11), none, none, []⟩,
        ⟨.indexAddr 1 (.l 1) (.l 2), none, none, []⟩,
        ⟨.store 1 (.l 3) (.c (.bool true)), none, none, []⟩]) (
      .skip))))) (
    .reg [⟨.bin .add false (.v 20) (.c (.int .i64 1)), none, none, []⟩,
      ⟨.mv (.l 0), some 20, none, []⟩]))))))) (
  .seq (
  .reg [⟨.makeMap 9, none, none, []⟩,
    ⟨.mv (.l 0), some 12, none, []⟩]) (
  .seq (
  .seq (
  .reg [⟨.mv (.v 3), some 23, none, []⟩,
    ⟨.len false (.l 0), some 24, none, []⟩,
    ⟨.mv (.c (.int .i64 0)), some 25, none, []⟩]) (
  .block 2 (
   .loopS [5, 7, 10, 12, 23, 24, 25] 15 (
    .seq (
    .reg [⟨.bin .lss false (.v 25) (.v 24), some 26, none, []⟩]) (
    .seq (
    .cond (.v 26) (
     .skip) (
     .exit 2)) (
    .seq (
    .block 3 (
     .seq (
     .reg [⟨.indexAddr 3 (.v 23) (.v 25), none, none, []⟩,
       ⟨.load true 3 (.l 0), none, none, []⟩,
       ⟨.alloc 10 [(.int .i64 0), (.int .i64 0), (.int .i64 0)], some 13, none, []⟩,
       ⟨.store 3 (.l 2) (.l 1), none, none, []⟩]) (
     .reg [⟨.mv (.v 12), none, none, [11, 12, 13]⟩,
       ⟨.fieldAddr 1 (.v 13), none, none, [11, 12, 13]⟩,
       ⟨.loadV false 1 (.l 1), none, none, [11, 12, 13]⟩,
       ⟨.mv (.v 12), none, none, [12]⟩,
       ⟨.fieldAddr 1 (.v 13), none, none, [12]⟩,
       ⟨.load false 1 (.l 4), none, none, [12]⟩,
       ⟨.lookupT 11 1 3 .nils (.l 3) (.l 5), none, none, [12]⟩,
       ⟨.loadV true 3 (.v 13), none, none, [11]⟩,
       ⟨.mkarr 12 3 [(.agg [(.int .i64 0), (.int .i64 0), (.int .i64 0)])] [(0, (.l 7))], none, none, [11]⟩,
       ⟨.append 13 3 24 1 (.l 6) (.l 8), none, none, []⟩,
       ⟨.mapUpd 1 (.l 0) (.l 2) (.l 9), none, none, []⟩]))) (
    .reg [⟨.bin .add false (.v 25) (.c (.int .i64 1)), none, none, []⟩,
      ⟨.mv (.l 0), some 25, none, []⟩]))))))) (
  .seq (
  .seq (
  .frz [(18, true)] (
  .reg [⟨.mv (.v 7), some 27, none, []⟩,
    ⟨.len false (.l 0), some 28, none, []⟩,
    ⟨.mv (.c (.int .i64 0)), some 29, none, []⟩])) (
  .block 4 (
   .loopS [5, 10, 12, 27, 28, 29] 15 (
    .seq (
    .reg [⟨.bin .lss false (.v 29) (.v 28), some 30, none, []⟩]) (
    .seq (
    .cond (.v 30) (
     .skip) (
     .exit 4)) (
    .seq (
    .block 5 (
     .seq (
     .reg [⟨.mv (.v 29), none, none, []⟩,
       ⟨.indexAddr 3 (.v 27) (.v 29), none, none, []⟩,
       ⟨.load true 3 (.l 1), none, none, []⟩,
       ⟨.alloc 14 [(.int .i64 0), .nils, .nils], some 15, none, []⟩,
       ⟨.mv (.l 0), some 14, none, []⟩,
       ⟨.store 3 (.l 3) (.l 2), none, none, []⟩]) (
     .seq (
     .reg [⟨.mv (.v 12), none, none, []⟩,
       ⟨.mv (.v 14), none, none, []⟩,
       ⟨.lookup 1 false .nils (.l 0) (.l 1), none, none, []⟩,
       ⟨.callv (.c (.fn (.func 35) [] [])) [(.v 10), (.l 2)], none, none, []⟩]) (
     .seq (
     .seq (
     .reg [⟨.fieldAddr 9 (.v 10), none, none, []⟩,
       ⟨.load false 1 (.l 0), some 31, none, []⟩]) (
     .cond (.v 31) (
      .exit 4) (
      .skip))) (
     .reg [⟨.load true 3 (.v 15), none, none, []⟩,
       ⟨.callv (.c (.fn (.func 36) [] [])) [(.v 10), (.l 0)], none, none, []⟩]))))) (
    .reg [⟨.bin .add false (.v 29) (.c (.int .i64 1)), none, none, []⟩,
      ⟨.mv (.l 0), some 29, none, []⟩]))))))) (
  .seq (
  .reg [⟨.fieldAddr 9 (.v 10), none, none, []⟩,
    ⟨.load false 1 (.l 0), none, none, []⟩,
    ⟨.un .not (.l 1), none, none, []⟩,
    ⟨.fieldAddr 0 (.v 10), none, none, []⟩,
    ⟨.fieldAddr 5 (.l 3), none, none, []⟩,
    ⟨.store 1 (.l 4) (.l 2), none, none, []⟩]) (
  .seq (
  .reg [⟨.fieldAddr 0 (.v 10), none, none, []⟩,
    ⟨.load true 7 (.l 0), none, none, []⟩,
    ⟨.store 7 (.v 5) (.l 1), none, none, []⟩,
    ⟨.mv (.c (.int .i64 0)), some 6, none, []⟩]) (
  .ret))))))))))))))⟩

theorem c11 : compFn Try.prog 11 = some { X11 with body := strip X11.body } := by kernel_rfl
theorem c12 : compFn Try.prog 12 = some { X12 with body := strip X12.body } := by kernel_rfl
theorem c13 : compFn Try.prog 13 = some { X13 with body := strip X13.body } := by kernel_rfl
theorem c15 : compFn Try.prog 15 = some { X15 with body := strip X15.body } := by kernel_rfl
theorem c16 : compFn Try.prog 16 = some { X16 with body := strip X16.body } := by kernel_rfl
theorem c17 : compFn Try.prog 17 = some { X17 with body := strip X17.body } := by kernel_rfl
theorem c18 : compFn Try.prog 18 = some { X18 with body := strip X18.body } := by kernel_rfl
theorem c19 : compFn Try.prog 19 = some { X19 with body := strip X19.body } := by kernel_rfl
theorem c21 : compFn Try.prog 21 = some { X21 with body := strip X21.body } := by kernel_rfl
theorem c22 : compFn Try.prog 22 = some { X22 with body := strip X22.body } := by kernel_rfl
theorem c23 : compFn Try.prog 23 = some { X23 with body := strip X23.body } := by kernel_rfl
theorem c27 : compFn Try.prog 27 = some { X27 with body := strip X27.body } := by kernel_rfl
theorem c29 : compFn Try.prog 29 = some { X29 with body := strip X29.body } := by kernel_rfl
theorem c38 : compFn Try.prog 38 = some { X38 with body := strip X38.body } := by kernel_rfl
theorem c53 : compFn Try.prog 53 = some { X53 with body := strip X53.body } := by kernel_rfl
theorem c14 : compFn Try.prog 14 = some { X14 with body := strip X14.body } := by kernel_rfl
end Go.Proofs.Ytgdcogoacnghkaa.N
