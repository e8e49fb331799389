/-
  Chapter 20: the reference's functions, as the machine takes them (printed).
-/
import Derived.Test.YtfpkcjjgooigbaaProg
import Derived.KernelRfl
import Derived.Test.YtfpkcjjgooigbaaMg4
namespace Go.Proofs.Ytfpkcjjgooigbaa.C
set_option linter.unusedSimpArgs false
set_option linter.unusedVariables false
set_option linter.unusedSectionVars false
open Go.Proofs.Ytfpkcjjgooigbaa.Am
def X20 : XFn :=
 ⟨52, [0, 2, 3, 21, 25, 51], 0, [(1, none)],
  .seq (
  .reg [⟨.mv (.c (.bool false)), some 1, none, []⟩]) (
  .seq (
  .seq (
  .reg [⟨.mv (.v 0), none, none, []⟩,
    ⟨.len false (.l 0), none, none, []⟩,
    ⟨.bin .eql false (.l 1) (.c (.int .i64 0)), none, none, []⟩,
    ⟨.mv (.l 2), none, none, []⟩,
    ⟨.mv (.v 0), none, some ((.l 3), false), []⟩,
    ⟨.indexAddr 1 (.l 4) (.c (.int .i64 0)), none, some ((.l 3), false), []⟩,
    ⟨.load false 1 (.l 5), none, some ((.l 3), false), []⟩,
    ⟨.bin .eql false (.l 6) (.c (.int .u8 0)), none, some ((.l 3), false), []⟩,
    ⟨.pick (.l 3) (.c (.bool true)) (.l 7), none, none, []⟩,
    ⟨.mv (.l 8), none, none, []⟩,
    ⟨.mv (.v 0), none, some ((.l 9), false), []⟩,
    ⟨.mv (.v 0), none, some ((.l 9), false), []⟩,
    ⟨.len false (.l 11), none, some ((.l 9), false), []⟩,
    ⟨.bin .sub false (.l 12) (.c (.int .i64 1)), none, some ((.l 9), false), []⟩,
    ⟨.indexAddr 1 (.l 10) (.l 13), none, some ((.l 9), false), []⟩,
    ⟨.load false 1 (.l 14), none, some ((.l 9), false), []⟩,
    ⟨.bin .eql false (.l 15) (.c (.int .u8 0)), none, some ((.l 9), false), []⟩,
    ⟨.pick (.l 9) (.c (.bool true)) (.l 16), some 3, none, []⟩]) (
  .cond (.v 3) (
   .seq (
   .reg [⟨.mv (.c (.bool false)), some 1, none, []⟩]) (
   .ret)) (
   .skip))) (
  .seq (
  .seq (
  .reg [⟨.mv (.c (.int .i64 0)), some 2, none, []⟩]) (
  .block 0 (
   .loopS [0, 2] 0 (
    .seq (
    .seq (
    .reg [⟨.mv (.v 2), none, none, []⟩,
      ⟨.mv (.v 0), none, none, []⟩,
      ⟨.len false (.l 1), none, none, []⟩,
      ⟨.bin .lss false (.l 0) (.l 2), some 4, none, []⟩]) (
    .cond (.v 4) (
     .skip) (
     .exit 0))) (
    .seq (
    .block 1 (
     .seq (
     .reg [⟨.mv (.v 0), none, none, []⟩,
       ⟨.mv (.v 2), none, none, []⟩,
       ⟨.indexAddr 1 (.l 0) (.l 1), none, none, []⟩,
       ⟨.load false 1 (.l 2), none, none, []⟩,
       ⟨.bin .gtr false (.l 3) (.c (.int .u8 63)), none, none, []⟩,
       ⟨.mv (.l 4), none, none, []⟩,
       ⟨.mv (.v 2), none, some ((.l 5), false), []⟩,
       ⟨.bin .gtr false (.l 6) (.c (.int .i64 0)), none, some ((.l 5), false), []⟩,
       ⟨.mv (.l 7), none, some ((.l 5), false), []⟩,
       ⟨.mv (.v 0), none, some ((.l 8), true), []⟩,
       ⟨.mv (.v 2), none, some ((.l 8), true), []⟩,
       ⟨.indexAddr 1 (.l 9) (.l 10), none, some ((.l 8), true), []⟩,
       ⟨.load false 1 (.l 11), none, some ((.l 8), true), []⟩,
       ⟨.bin .eql false (.l 12) (.c (.int .u8 0)), none, some ((.l 8), true), []⟩,
       ⟨.pick (.l 8) (.l 13) (.c (.bool false)), none, some ((.l 5), false), []⟩,
       ⟨.mv (.l 14), none, some ((.l 5), false), []⟩,
       ⟨.mv (.v 0), none, some ((.l 15), true), []⟩,
       ⟨.mv (.v 2), none, some ((.l 15), true), []⟩,
       ⟨.bin .sub false (.l 17) (.c (.int .i64 1)), none, some ((.l 15), true), []⟩,
       ⟨.indexAddr 1 (.l 16) (.l 18), none, some ((.l 15), true), []⟩,
       ⟨.load false 1 (.l 19), none, some ((.l 15), true), []⟩,
       ⟨.bin .eql false (.l 20) (.c (.int .u8 0)), none, some ((.l 15), true), []⟩,
       ⟨.pick (.l 15) (.l 21) (.c (.bool false)), none, some ((.l 5), false), []⟩,
       ⟨.pick (.l 5) (.c (.bool true)) (.l 22), some 5, none, []⟩]) (
     .cond (.v 5) (
      .seq (
      .reg [⟨.mv (.c (.bool false)), some 1, none, []⟩]) (
      .ret)) (
      .skip)))) (
    .reg [⟨.mv (.v 2), none, none, []⟩,
      ⟨.bin .add false (.l 0) (.c (.int .i64 1)), none, none, []⟩,
      ⟨.mv (.l 1), some 2, none, []⟩])))))) (
  .seq (
  .reg [⟨.mv (.c (.bool true)), some 1, none, []⟩]) (
  .ret))))⟩

def X19 : XFn :=
 ⟨37, [0, 2, 3, 20, 24, 36], 0, [(1, none)],
  .seq (
  .reg [⟨.mv (.c (.bool false)), some 1, none, []⟩]) (
  .seq (
  .seq (
  .reg [⟨.mv (.v 0), none, none, []⟩,
    ⟨.len false (.l 0), none, none, []⟩,
    ⟨.bin .eql false (.l 1) (.c (.int .i64 0)), none, none, []⟩,
    ⟨.mv (.l 2), none, none, []⟩,
    ⟨.mv (.v 0), none, some ((.l 3), false), []⟩,
    ⟨.indexAddr 1 (.l 4) (.c (.int .i64 0)), none, some ((.l 3), false), []⟩,
    ⟨.load false 1 (.l 5), none, some ((.l 3), false), []⟩,
    ⟨.len false (.l 6), none, some ((.l 3), false), []⟩,
    ⟨.bin .lss false (.l 7) (.c (.int .i64 1)), none, some ((.l 3), false), []⟩,
    ⟨.pick (.l 3) (.c (.bool true)) (.l 8), none, none, []⟩,
    ⟨.mv (.l 9), none, none, []⟩,
    ⟨.mv (.v 0), none, some ((.l 10), false), []⟩,
    ⟨.indexAddr 1 (.l 11) (.c (.int .i64 0)), none, some ((.l 10), false), []⟩,
    ⟨.load false 1 (.l 12), none, some ((.l 10), false), []⟩,
    ⟨.len false (.l 13), none, some ((.l 10), false), []⟩,
    ⟨.bin .gtr false (.l 14) (.c (.int .i64 4)), none, some ((.l 10), false), []⟩,
    ⟨.pick (.l 10) (.c (.bool true)) (.l 15), some 3, none, []⟩]) (
  .cond (.v 3) (
   .seq (
   .reg [⟨.mv (.c (.bool false)), some 1, none, []⟩]) (
   .ret)) (
   .skip))) (
  .seq (
  .seq (
  .reg [⟨.mv (.c (.int .i64 0)), some 2, none, []⟩]) (
  .block 0 (
   .loopS [0, 2] 0 (
    .seq (
    .seq (
    .reg [⟨.mv (.v 2), none, none, []⟩,
      ⟨.mv (.v 0), none, none, []⟩,
      ⟨.len false (.l 1), none, none, []⟩,
      ⟨.bin .lss false (.l 0) (.l 2), some 4, none, []⟩]) (
    .cond (.v 4) (
     .skip) (
     .exit 0))) (
    .seq (
    .block 1 (
     .seq (
     .reg [⟨.mv (.v 0), none, none, []⟩,
       ⟨.mv (.v 2), none, none, []⟩,
       ⟨.indexAddr 1 (.l 0) (.l 1), none, none, []⟩,
       ⟨.load false 1 (.l 2), none, none, []⟩,
       ⟨.len false (.l 3), none, none, []⟩,
       ⟨.mv (.v 0), none, none, []⟩,
       ⟨.indexAddr 1 (.l 5) (.c (.int .i64 0)), none, none, []⟩,
       ⟨.load false 1 (.l 6), none, none, []⟩,
       ⟨.len false (.l 7), none, none, []⟩,
       ⟨.bin .neq false (.l 4) (.l 8), some 5, none, []⟩]) (
     .cond (.v 5) (
      .seq (
      .reg [⟨.mv (.c (.bool false)), some 1, none, []⟩]) (
      .ret)) (
      .skip)))) (
    .reg [⟨.mv (.v 2), none, none, []⟩,
      ⟨.bin .add false (.l 0) (.c (.int .i64 1)), none, none, []⟩,
      ⟨.mv (.l 1), some 2, none, []⟩])))))) (
  .seq (
  .reg [⟨.mv (.c (.bool true)), some 1, none, []⟩]) (
  .ret))))⟩

def X43 : XFn :=
 ⟨12, [0, 1, 4, 5], 2, [(2, none)],
  .seq (
  .reg [⟨.mv (.c .nils), some 2, none, []⟩]) (
  .seq (
  .reg [⟨.mv (.v 0), none, none, []⟩,
    ⟨.minmax true [(.l 0), (.c (.int .i64 0))], none, none, []⟩,
    ⟨.makeSlice 0 1 1 (.int .u8 0) (.l 1) (.l 1), none, none, []⟩,
    ⟨.mv (.l 2), some 3, none, []⟩]) (
  .seq (
  .reg [⟨.mv (.v 3), none, none, []⟩,
    ⟨.mv (.v 1), none, none, []⟩,
    ⟨.append 1 1 1 0 (.l 0) (.l 1), none, none, []⟩,
    ⟨.mv (.l 2), some 2, none, []⟩]) (
  .ret)))⟩

def X21 : XFn :=
 ⟨41, [0, 2, 3, 4, 5, 6, 18, 24], 0, [(1, none)],
  .seq (
  .reg [⟨.mv (.c (.int .i64 0)), some 1, none, []⟩]) (
  .seq (
  .reg [⟨.mv (.v 0), none, none, []⟩,
    ⟨.indexAddr 1 (.l 0) (.c (.int .i64 0)), none, none, []⟩,
    ⟨.load false 1 (.l 1), none, none, []⟩,
    ⟨.len false (.l 2), none, none, []⟩,
    ⟨.bin .sub false (.l 3) (.c (.int .i64 1)), none, none, []⟩,
    ⟨.bin .mul false (.c (.int .i64 2)) (.l 4), none, none, []⟩,
    ⟨.mv (.l 5), some 2, none, []⟩]) (
  .seq (
  .seq (
  .reg [⟨.mv (.c (.int .i64 0)), some 3, none, []⟩]) (
  .block 0 (
   .loopS [0, 2, 3] 0 (
    .seq (
    .seq (
    .reg [⟨.mv (.v 3), none, none, []⟩,
      ⟨.mv (.v 0), none, none, []⟩,
      ⟨.indexAddr 1 (.l 1) (.c (.int .i64 0)), none, none, []⟩,
      ⟨.load false 1 (.l 2), none, none, []⟩,
      ⟨.len false (.l 3), none, none, []⟩,
      ⟨.bin .lss false (.l 0) (.l 4), some 6, none, []⟩]) (
    .cond (.v 6) (
     .skip) (
     .exit 0))) (
    .seq (
    .block 1 (
     .seq (
     .reg [⟨.mv (.c (.int .i64 0)), some 4, none, []⟩]) (
     .seq (
     .seq (
     .reg [⟨.mv (.c (.int .i64 0)), some 5, none, []⟩]) (
     .block 2 (
      .loopS [0, 2, 3, 4, 5] 0 (
       .seq (
       .seq (
       .reg [⟨.mv (.v 5), none, none, []⟩,
         ⟨.mv (.v 0), none, none, []⟩,
         ⟨.len false (.l 1), none, none, []⟩,
         ⟨.bin .lss false (.l 0) (.l 2), some 7, none, []⟩]) (
       .cond (.v 7) (
        .skip) (
        .exit 2))) (
       .seq (
       .block 3 (
        .reg [⟨.mv (.v 4), none, none, []⟩,
          ⟨.mv (.v 0), none, none, []⟩,
          ⟨.mv (.v 5), none, none, []⟩,
          ⟨.indexAddr 1 (.l 1) (.l 2), none, none, []⟩,
          ⟨.load false 1 (.l 3), none, none, []⟩,
          ⟨.mv (.v 3), none, none, []⟩,
          ⟨.indexAddr 1 (.l 4) (.l 5), none, none, []⟩,
          ⟨.load false 1 (.l 6), none, none, []⟩,
          ⟨.len false (.l 7), none, none, []⟩,
          ⟨.minmax true [(.l 0), (.l 8)], none, none, []⟩,
          ⟨.mv (.l 9), some 4, none, []⟩])) (
       .reg [⟨.mv (.v 5), none, none, []⟩,
         ⟨.bin .add false (.l 0) (.c (.int .i64 1)), none, none, []⟩,
         ⟨.mv (.l 1), some 5, none, []⟩])))))) (
     .reg [⟨.mv (.v 2), none, none, []⟩,
       ⟨.mv (.v 4), none, none, []⟩,
       ⟨.bin .add false (.l 0) (.l 1), none, none, []⟩,
       ⟨.mv (.l 2), some 2, none, []⟩])))) (
    .reg [⟨.mv (.v 3), none, none, []⟩,
      ⟨.bin .add false (.l 0) (.c (.int .i64 1)), none, none, []⟩,
      ⟨.mv (.l 1), some 3, none, []⟩])))))) (
  .seq (
  .reg [⟨.mv (.v 2), none, none, []⟩,
    ⟨.mv (.l 0), some 1, none, []⟩]) (
  .ret))))⟩

def X22 : XFn :=
 ⟨75, [0, 2, 3, 4, 5, 6, 7, 8, 9, 18, 24, 30, 55], 7, [(1, none)],
  .seq (
  .reg [⟨.mv (.c .nils), some 1, none, []⟩]) (
  .seq (
  .reg [⟨.mkarr 0 1 [] [], none, none, []⟩,
    ⟨.mv (.v 0), none, none, [0]⟩,
    ⟨.indexAddr 1 (.l 1) (.c (.int .i64 0)), none, none, [0]⟩,
    ⟨.load false 1 (.l 2), none, none, [0]⟩,
    ⟨.len false (.l 3), none, none, [0]⟩,
    ⟨.mv (.l 0), some 2, none, []⟩,
    ⟨.mv (.l 4), some 3, none, []⟩]) (
  .seq (
  .seq (
  .reg [⟨.mv (.c (.int .i64 0)), some 4, none, []⟩]) (
  .block 0 (
   .loopS [0, 2, 3, 4] 7 (
    .seq (
    .seq (
    .reg [⟨.mv (.v 4), none, none, []⟩,
      ⟨.mv (.v 0), none, none, []⟩,
      ⟨.len false (.l 1), none, none, []⟩,
      ⟨.bin .lss false (.l 0) (.l 2), some 9, none, []⟩]) (
    .cond (.v 9) (
     .skip) (
     .exit 0))) (
    .seq (
    .block 1 (
     .seq (
     .reg [⟨.mkarr 1 1 [] [], none, none, []⟩,
       ⟨.mv (.l 0), some 5, none, []⟩]) (
     .seq (
     .seq (
     .reg [⟨.mv (.c (.int .i64 0)), some 6, none, []⟩]) (
     .block 2 (
      .loopS [0, 2, 3, 4, 5, 6] 7 (
       .seq (
       .seq (
       .reg [⟨.mv (.v 6), none, none, []⟩,
         ⟨.mv (.v 3), none, none, []⟩,
         ⟨.bin .lss false (.l 0) (.l 1), some 10, none, []⟩]) (
       .cond (.v 10) (
        .skip) (
        .exit 2))) (
       .seq (
       .block 3 (
        .seq (
        .reg [⟨.mv (.c (.int .i64 0)), some 7, none, []⟩]) (
        .seq (
        .seq (
        .reg [⟨.mv (.c (.int .i64 0)), some 8, none, []⟩]) (
        .block 4 (
         .loopS [0, 2, 3, 4, 5, 6, 7, 8] 7 (
          .seq (
          .seq (
          .reg [⟨.mv (.v 8), none, none, []⟩,
            ⟨.mv (.v 0), none, none, []⟩,
            ⟨.len false (.l 1), none, none, []⟩,
            ⟨.bin .lss false (.l 0) (.l 2), some 11, none, []⟩]) (
          .cond (.v 11) (
           .skip) (
           .exit 4))) (
          .seq (
          .block 5 (
           .reg [⟨.mv (.v 7), none, none, []⟩,
             ⟨.mv (.v 0), none, none, []⟩,
             ⟨.mv (.v 8), none, none, []⟩,
             ⟨.indexAddr 1 (.l 1) (.l 2), none, none, []⟩,
             ⟨.load false 1 (.l 3), none, none, []⟩,
             ⟨.mv (.v 6), none, none, []⟩,
             ⟨.indexAddr 1 (.l 4) (.l 5), none, none, []⟩,
             ⟨.load false 1 (.l 6), none, none, []⟩,
             ⟨.len false (.l 7), none, none, []⟩,
             ⟨.minmax true [(.l 0), (.l 8)], none, none, []⟩,
             ⟨.mv (.l 9), some 7, none, []⟩])) (
          .reg [⟨.mv (.v 8), none, none, []⟩,
            ⟨.bin .add false (.l 0) (.c (.int .i64 1)), none, none, []⟩,
            ⟨.mv (.l 1), some 8, none, []⟩])))))) (
        .seq (
        .reg [⟨.mv (.v 5), none, none, []⟩,
          ⟨.mv (.v 0), none, none, []⟩,
          ⟨.mv (.v 4), none, none, []⟩,
          ⟨.indexAddr 1 (.l 1) (.l 2), none, none, []⟩,
          ⟨.load false 1 (.l 3), none, none, []⟩,
          ⟨.mv (.v 6), none, none, []⟩,
          ⟨.indexAddr 1 (.l 4) (.l 5), none, none, []⟩,
          ⟨.load false 1 (.l 6), none, none, []⟩,
          ⟨.append 2 1 1 0 (.l 0) (.l 7), none, none, []⟩,
          ⟨.mv (.l 8), some 5, none, []⟩]) (
        .seq (
        .reg [⟨.mv (.v 6), none, none, []⟩,
          ⟨.mv (.v 3), none, none, []⟩,
          ⟨.bin .sub false (.l 1) (.c (.int .i64 1)), none, none, []⟩,
          ⟨.bin .lss false (.l 0) (.l 2), some 12, none, []⟩]) (
        .cond (.v 12) (
         .reg [⟨.mv (.v 5), none, none, []⟩,
           ⟨.mv (.v 7), none, none, []⟩,
           ⟨.mv (.v 0), none, none, []⟩,
           ⟨.mv (.v 4), none, none, []⟩,
           ⟨.indexAddr 1 (.l 2) (.l 3), none, none, []⟩,
           ⟨.load false 1 (.l 4), none, none, []⟩,
           ⟨.mv (.v 6), none, none, []⟩,
           ⟨.indexAddr 1 (.l 5) (.l 6), none, none, []⟩,
           ⟨.load false 1 (.l 7), none, none, []⟩,
           ⟨.len false (.l 8), none, none, []⟩,
           ⟨.bin .sub false (.l 1) (.l 9), none, none, []⟩,
           ⟨.bin .add false (.l 10) (.c (.int .i64 2)), none, none, []⟩,
           ⟨.call 43 [(.l 11), (.c .nils)] [(3, 1)] true, none, none, []⟩,
           ⟨.append 4 1 1 0 (.l 0) (.l 12), none, none, []⟩,
           ⟨.mv (.l 13), some 5, none, []⟩]) (
         .skip))))))) (
       .reg [⟨.mv (.v 6), none, none, []⟩,
         ⟨.bin .add false (.l 0) (.c (.int .i64 1)), none, none, []⟩,
         ⟨.mv (.l 1), some 6, none, []⟩])))))) (
     .reg [⟨.mv (.v 2), none, none, []⟩,
       ⟨.mv (.v 5), none, none, []⟩,
       ⟨.mkarr 5 1 [.nils] [(0, (.l 1))], none, none, []⟩,
       ⟨.append 6 1 24 1 (.l 0) (.l 2), none, none, []⟩,
       ⟨.mv (.l 3), some 2, none, []⟩])))) (
    .reg [⟨.mv (.v 4), none, none, []⟩,
      ⟨.bin .add false (.l 0) (.c (.int .i64 1)), none, none, []⟩,
      ⟨.mv (.l 1), some 4, none, []⟩])))))) (
  .seq (
  .reg [⟨.mv (.v 2), none, none, []⟩,
    ⟨.mv (.l 0), some 1, none, []⟩]) (
  .ret))))⟩

def X23 : XFn :=
 ⟨36, [0, 2, 3, 4, 5, 10, 19], 4, [(1, none)],
  .seq (
  .reg [⟨.mv (.c .nils), some 1, none, []⟩]) (
  .seq (
  .reg [⟨.mkarr 0 1 [] [], none, none, []⟩,
    ⟨.mv (.l 0), some 2, none, []⟩]) (
  .seq (
  .seq (
  .reg [⟨.mv (.c (.int .i64 0)), some 3, none, []⟩]) (
  .block 0 (
   .loopS [0, 2, 3] 4 (
    .seq (
    .seq (
    .reg [⟨.mv (.v 3), none, none, []⟩,
      ⟨.mv (.v 0), none, none, []⟩,
      ⟨.len false (.l 1), none, none, []⟩,
      ⟨.bin .lss false (.l 0) (.l 2), some 5, none, []⟩]) (
    .cond (.v 5) (
     .skip) (
     .exit 0))) (
    .seq (
    .block 1 (
     .seq (
     .reg [⟨.mv (.c (.int .i64 0)), some 4, none, []⟩]) (
     .block 2 (
      .loopS [0, 2, 3, 4] 4 (
       .seq (
       .seq (
       .reg [⟨.mv (.v 4), none, none, []⟩,
         ⟨.mv (.v 0), none, none, []⟩,
         ⟨.mv (.v 3), none, none, []⟩,
         ⟨.indexAddr 1 (.l 1) (.l 2), none, none, []⟩,
         ⟨.load false 1 (.l 3), none, none, []⟩,
         ⟨.len false (.l 4), none, none, []⟩,
         ⟨.bin .lss false (.l 0) (.l 5), some 6, none, []⟩]) (
       .cond (.v 6) (
        .skip) (
        .exit 2))) (
       .seq (
       .block 3 (
        .reg [⟨.mv (.v 2), none, none, []⟩,
          ⟨.mv (.v 4), none, none, []⟩,
          ⟨.bin .mul false (.c (.int .i64 2)) (.l 1), none, none, []⟩,
          ⟨.mv (.v 0), none, none, []⟩,
          ⟨.mv (.v 3), none, none, []⟩,
          ⟨.indexAddr 1 (.l 3) (.l 4), none, none, []⟩,
          ⟨.load false 1 (.l 5), none, none, []⟩,
          ⟨.mv (.v 4), none, none, []⟩,
          ⟨.indexAddr 1 (.l 6) (.l 7), none, none, []⟩,
          ⟨.load false 1 (.l 8), none, none, []⟩,
          ⟨.call 43 [(.l 2), (.l 9)] [(1, 1)] true, none, none, []⟩,
          ⟨.mkarr 2 1 [.nils] [(0, (.l 10))], none, none, []⟩,
          ⟨.append 3 1 24 1 (.l 0) (.l 11), none, none, []⟩,
          ⟨.mv (.l 12), some 2, none, []⟩])) (
       .reg [⟨.mv (.v 4), none, none, []⟩,
         ⟨.bin .add false (.l 0) (.c (.int .i64 1)), none, none, []⟩,
         ⟨.mv (.l 1), some 4, none, []⟩]))))))) (
    .reg [⟨.mv (.v 3), none, none, []⟩,
      ⟨.bin .add false (.l 0) (.c (.int .i64 1)), none, none, []⟩,
      ⟨.mv (.l 1), some 3, none, []⟩])))))) (
  .seq (
  .reg [⟨.mv (.v 2), none, none, []⟩,
    ⟨.mv (.l 0), some 1, none, []⟩]) (
  .ret))))⟩

def X24 : XFn :=
 ⟨19, [0, 2, 3, 4, 8], 0, [(1, none)],
  .seq (
  .reg [⟨.mv (.c (.int .i64 0)), some 1, none, []⟩]) (
  .seq (
  .reg [⟨.mv (.c (.int .i64 0)), some 2, none, []⟩]) (
  .seq (
  .seq (
  .reg [⟨.mv (.c (.int .i64 0)), some 3, none, []⟩]) (
  .block 0 (
   .loopS [0, 2, 3] 0 (
    .seq (
    .seq (
    .reg [⟨.mv (.v 3), none, none, []⟩,
      ⟨.mv (.v 0), none, none, []⟩,
      ⟨.len false (.l 1), none, none, []⟩,
      ⟨.bin .lss false (.l 0) (.l 2), some 4, none, []⟩]) (
    .cond (.v 4) (
     .skip) (
     .exit 0))) (
    .seq (
    .block 1 (
     .reg [⟨.mv (.v 2), none, none, []⟩,
       ⟨.mv (.v 0), none, none, []⟩,
       ⟨.mv (.v 3), none, none, []⟩,
       ⟨.indexAddr 1 (.l 1) (.l 2), none, none, []⟩,
       ⟨.load false 1 (.l 3), none, none, []⟩,
       ⟨.len false (.l 4), none, none, []⟩,
       ⟨.minmax true [(.l 0), (.l 5)], none, none, []⟩,
       ⟨.mv (.l 6), some 2, none, []⟩])) (
    .reg [⟨.mv (.v 3), none, none, []⟩,
      ⟨.bin .add false (.l 0) (.c (.int .i64 1)), none, none, []⟩,
      ⟨.mv (.l 1), some 3, none, []⟩])))))) (
  .seq (
  .reg [⟨.mv (.v 2), none, none, []⟩,
    ⟨.mv (.l 0), some 1, none, []⟩]) (
  .ret))))⟩

def X25 : XFn :=
 ⟨49, [0, 1, 4, 5, 6, 7, 8, 9, 14, 23, 43], 4, [(2, none), (3, none)],
  .seq (
  .reg [⟨.mv (.c .nils), some 2, none, []⟩,
    ⟨.mv (.c (.bool false)), some 3, none, []⟩]) (
  .seq (
  .reg [⟨.mkarr 0 1 [] [], none, none, []⟩,
    ⟨.mv (.l 0), some 4, none, []⟩]) (
  .seq (
  .seq (
  .reg [⟨.mv (.c (.int .i64 0)), some 5, none, []⟩]) (
  .block 0 (
   .loopS [0, 1, 4, 5] 4 (
    .seq (
    .seq (
    .reg [⟨.mv (.v 5), none, none, []⟩,
      ⟨.mv (.v 0), none, none, []⟩,
      ⟨.len false (.l 1), none, none, []⟩,
      ⟨.bin .lss false (.l 0) (.l 2), some 8, none, []⟩]) (
    .cond (.v 8) (
     .skip) (
     .exit 0))) (
    .seq (
    .block 1 (
     .seq (
     .reg [⟨.mv (.c (.int .i64 0)), some 6, none, []⟩]) (
     .block 2 (
      .loopS [0, 1, 4, 5, 6] 4 (
       .seq (
       .seq (
       .reg [⟨.mv (.v 6), none, none, []⟩,
         ⟨.mv (.v 0), none, none, []⟩,
         ⟨.mv (.v 5), none, none, []⟩,
         ⟨.indexAddr 1 (.l 1) (.l 2), none, none, []⟩,
         ⟨.load false 1 (.l 3), none, none, []⟩,
         ⟨.len false (.l 4), none, none, []⟩,
         ⟨.bin .lss false (.l 0) (.l 5), some 9, none, []⟩]) (
       .cond (.v 9) (
        .skip) (
        .exit 2))) (
       .seq (
       .block 3 (
        .seq (
        .reg [⟨.mv (.v 0), none, none, []⟩,
          ⟨.mv (.v 5), none, none, []⟩,
          ⟨.indexAddr 1 (.l 0) (.l 1), none, none, []⟩,
          ⟨.load false 1 (.l 2), none, none, []⟩,
          ⟨.mv (.v 6), none, none, []⟩,
          ⟨.indexAddr 1 (.l 3) (.l 4), none, none, []⟩,
          ⟨.load false 1 (.l 5), none, none, []⟩,
          ⟨.mv (.v 1), none, none, []⟩,
          ⟨.mv (.v 6), none, none, []⟩,
          ⟨.bin .mul false (.c (.int .i64 4)) (.l 8), none, none, []⟩,
          ⟨.mv (.v 6), none, none, []⟩,
          ⟨.bin .mul false (.c (.int .i64 4)) (.l 10), none, none, []⟩,
          ⟨.bin .add false (.l 11) (.c (.int .i64 2)), none, none, []⟩,
          ⟨.build [(.int .i64 0), (.int .i64 0)] [(0, 1, (.l 9)), (1, 1, (.l 12))], none, none, []⟩,
          ⟨.call 44 [(.l 6), (.l 7), (.l 13)] [(1, 1), (0, 0), (0, 0)] true, none, none, []⟩,
          ⟨.alloc 2 [.nils, (.int .i64 0), (.int .i64 0)], some 7, none, []⟩,
          ⟨.store 3 (.l 15) (.l 14), none, none, []⟩]) (
        .seq (
        .seq (
        .reg [⟨.fieldAddr 2 (.v 7), none, none, []⟩,
          ⟨.load false 1 (.l 0), none, none, []⟩,
          ⟨.bin .neq false (.l 1) (.c (.int .i64 0)), some 10, none, []⟩]) (
        .cond (.v 10) (
         .seq (
         .reg [⟨.mv (.c .nils), some 2, none, []⟩,
           ⟨.mv (.c (.bool false)), some 3, none, []⟩]) (
         .ret)) (
         .skip))) (
        .reg [⟨.mv (.v 4), none, none, []⟩,
          ⟨.fieldAddr 0 (.v 7), none, none, []⟩,
          ⟨.load false 1 (.l 1), none, none, []⟩,
          ⟨.append 3 1 24 0 (.l 0) (.l 2), none, none, []⟩,
          ⟨.mv (.l 3), some 4, none, []⟩])))) (
       .reg [⟨.mv (.v 6), none, none, []⟩,
         ⟨.bin .add false (.l 0) (.c (.int .i64 1)), none, none, []⟩,
         ⟨.mv (.l 1), some 6, none, []⟩]))))))) (
    .reg [⟨.mv (.v 5), none, none, []⟩,
      ⟨.bin .add false (.l 0) (.c (.int .i64 1)), none, none, []⟩,
      ⟨.mv (.l 1), some 5, none, []⟩])))))) (
  .seq (
  .reg [⟨.mv (.v 4), none, none, []⟩,
    ⟨.mv (.l 0), some 2, none, []⟩,
    ⟨.mv (.c (.bool true)), some 3, none, []⟩]) (
  .ret))))⟩

def X12 : XFn :=
 ⟨72, [0, 1, 4, 5, 6, 7, 8, 9, 15, 19, 24, 33, 44, 49, 58, 68], 4, [(2, some (true, 3))],
  .seq (
  .reg [⟨.alloc 0 [.nils, (.int .i64 0), (.int .i64 0)], some 2, none, []⟩]) (
  .seq (
  .seq (
  .reg [⟨.mv (.v 1), none, none, []⟩,
    ⟨.bin .lss false (.l 0) (.c (.int .i64 24)), none, none, []⟩,
    ⟨.mv (.l 1), none, none, []⟩,
    ⟨.mv (.v 1), none, some ((.l 2), false), []⟩,
    ⟨.bin .gtr false (.l 3) (.c (.int .i64 60)), none, some ((.l 2), false), []⟩,
    ⟨.pick (.l 2) (.c (.bool true)) (.l 4), some 8, none, []⟩]) (
  .cond (.v 8) (
   .seq (
   .reg [⟨.build [.nils, (.int .i64 0), (.int .i64 0)] [(2, 1, (.c (.int .i64 1)))], none, none, []⟩,
     ⟨.store 3 (.v 2) (.l 0), none, none, []⟩]) (
   .ret)) (
   .skip))) (
  .seq (
  .seq (
  .reg [⟨.mv (.v 0), none, none, []⟩,
    ⟨.call 19 [(.l 0)] [(0, 0)] true, none, none, []⟩,
    ⟨.un .not (.l 1), some 9, none, []⟩]) (
  .cond (.v 9) (
   .seq (
   .reg [⟨.build [.nils, (.int .i64 0), (.int .i64 0)] [(2, 1, (.c (.int .i64 200)))], none, none, []⟩,
     ⟨.store 3 (.v 2) (.l 0), none, none, []⟩]) (
   .ret)) (
   .skip))) (
  .seq (
  .seq (
  .reg [⟨.mv (.c (.int .i64 0)), some 3, none, []⟩]) (
  .block 0 (
   .loopS [0, 1, 2, 3] 4 (
    .seq (
    .seq (
    .reg [⟨.mv (.v 3), none, none, []⟩,
      ⟨.mv (.v 0), none, none, []⟩,
      ⟨.len false (.l 1), none, none, []⟩,
      ⟨.bin .lss false (.l 0) (.l 2), some 10, none, []⟩]) (
    .cond (.v 10) (
     .skip) (
     .exit 0))) (
    .seq (
    .block 1 (
     .seq (
     .reg [⟨.mv (.c (.int .i64 0)), some 4, none, []⟩]) (
     .block 2 (
      .loopS [0, 1, 2, 3, 4] 4 (
       .seq (
       .seq (
       .reg [⟨.mv (.v 4), none, none, []⟩,
         ⟨.mv (.v 0), none, none, []⟩,
         ⟨.mv (.v 3), none, none, []⟩,
         ⟨.indexAddr 1 (.l 1) (.l 2), none, none, []⟩,
         ⟨.load false 1 (.l 3), none, none, []⟩,
         ⟨.len false (.l 4), none, none, []⟩,
         ⟨.bin .lss false (.l 0) (.l 5), some 11, none, []⟩]) (
       .cond (.v 11) (
        .skip) (
        .exit 2))) (
       .seq (
       .block 3 (
        .seq (
        .reg [⟨.mv (.v 0), none, none, []⟩,
          ⟨.mv (.v 3), none, none, []⟩,
          ⟨.indexAddr 1 (.l 0) (.l 1), none, none, []⟩,
          ⟨.load false 1 (.l 2), none, none, []⟩,
          ⟨.mv (.v 4), none, none, []⟩,
          ⟨.indexAddr 1 (.l 3) (.l 4), none, none, []⟩,
          ⟨.load false 1 (.l 5), none, none, []⟩,
          ⟨.call 20 [(.l 6)] [(0, 0)] true, none, none, []⟩,
          ⟨.un .not (.l 7), some 12, none, []⟩]) (
        .cond (.v 12) (
         .seq (
         .reg [⟨.build [.nils, (.int .i64 0), (.int .i64 0)] [(2, 1, (.c (.int .i64 180)))], none, none, []⟩,
           ⟨.store 3 (.v 2) (.l 0), none, none, []⟩]) (
         .ret)) (
         .skip)))) (
       .reg [⟨.mv (.v 4), none, none, []⟩,
         ⟨.bin .add false (.l 0) (.c (.int .i64 1)), none, none, []⟩,
         ⟨.mv (.l 1), some 4, none, []⟩]))))))) (
    .reg [⟨.mv (.v 3), none, none, []⟩,
      ⟨.bin .add false (.l 0) (.c (.int .i64 1)), none, none, []⟩,
      ⟨.mv (.l 1), some 3, none, []⟩])))))) (
  .seq (
  .seq (
  .reg [⟨.mv (.v 0), none, none, []⟩,
    ⟨.call 21 [(.l 0)] [(0, 0)] true, none, none, []⟩,
    ⟨.mv (.v 1), none, none, []⟩,
    ⟨.bin .leq false (.l 1) (.l 2), some 13, none, []⟩]) (
  .cond (.v 13) (
   .seq (
   .reg [⟨.mv (.v 0), none, none, []⟩,
     ⟨.call 22 [(.l 0)] [(1, 1)] true, none, none, []⟩,
     ⟨.build [.nils, (.int .i64 0), (.int .i64 0)] [(0, 1, (.l 1)), (1, 1, (.c (.int .i64 1)))], none, none, []⟩,
     ⟨.store 3 (.v 2) (.l 2), none, none, []⟩]) (
   .ret)) (
   .skip))) (
  .seq (
  .reg [⟨.mv (.v 0), none, none, []⟩,
    ⟨.call 23 [(.l 0)] [(2, 1)] true, none, none, []⟩,
    ⟨.mv (.l 1), some 5, none, []⟩]) (
  .seq (
  .seq (
  .reg [⟨.mv (.v 5), none, none, []⟩,
    ⟨.call 24 [(.l 0)] [(0, 0)] true, none, none, []⟩,
    ⟨.mv (.v 1), none, none, []⟩,
    ⟨.bin .leq false (.l 1) (.l 2), some 14, none, []⟩]) (
  .cond (.v 14) (
   .seq (
   .reg [⟨.mv (.v 5), none, none, []⟩,
     ⟨.build [.nils, (.int .i64 0), (.int .i64 0)] [(0, 1, (.l 0)), (1, 1, (.c (.int .i64 2)))], none, none, []⟩,
     ⟨.store 3 (.v 2) (.l 1), none, none, []⟩]) (
   .ret)) (
   .skip))) (
  .seq (
  .reg [⟨.mv (.v 0), none, none, []⟩,
    ⟨.mv (.v 1), none, none, []⟩,
    ⟨.call 25 [(.l 0), (.l 1)] [(3, 1), (0, 0)] true, none, none, []⟩,
    ⟨.mv (.l 2), none, none, []⟩,
    ⟨.extract (.l 3) 0, none, none, []⟩,
    ⟨.extract (.l 3) 1, none, none, []⟩,
    ⟨.mv (.l 4), some 6, none, []⟩,
    ⟨.mv (.l 5), some 7, none, []⟩]) (
  .seq (
  .seq (
  .reg [⟨.mv (.v 7), none, none, []⟩,
    ⟨.un .not (.l 0), some 15, none, []⟩]) (
  .cond (.v 15) (
   .seq (
   .reg [⟨.build [.nils, (.int .i64 0), (.int .i64 0)] [(2, 1, (.c (.int .i64 181)))], none, none, []⟩,
     ⟨.store 3 (.v 2) (.l 0), none, none, []⟩]) (
   .ret)) (
   .skip))) (
  .seq (
  .reg [⟨.mv (.v 6), none, none, []⟩,
    ⟨.build [.nils, (.int .i64 0), (.int .i64 0)] [(0, 1, (.l 0)), (1, 1, (.c (.int .i64 3)))], none, none, []⟩,
    ⟨.store 3 (.v 2) (.l 1), none, none, []⟩]) (
  .ret))))))))))⟩

def X10 : XFn :=
 ⟨24, [0, 1, 2, 3, 4], 2, [(4, none)],
  .seq (
  .reg [⟨.box 0 (.v 0), some 2, none, []⟩,
    ⟨.box 1 (.v 1), some 3, none, []⟩,
    ⟨.mv (.c (.bool false)), some 4, none, []⟩]) (
  .seq (
  .reg [⟨.fieldAddr 1 (.v 2), none, none, []⟩,
    ⟨.load false 1 (.l 0), none, none, []⟩,
    ⟨.fieldAddr 1 (.v 3), none, none, []⟩,
    ⟨.load false 1 (.l 2), none, none, []⟩,
    ⟨.bin .eql false (.l 1) (.l 3), none, none, []⟩,
    ⟨.mv (.l 4), none, none, []⟩,
    ⟨.fieldAddr 2 (.v 2), none, some ((.l 5), true), []⟩,
    ⟨.load false 1 (.l 6), none, some ((.l 5), true), []⟩,
    ⟨.fieldAddr 2 (.v 3), none, some ((.l 5), true), []⟩,
    ⟨.load false 1 (.l 8), none, some ((.l 5), true), []⟩,
    ⟨.bin .eql false (.l 7) (.l 9), none, some ((.l 5), true), []⟩,
    ⟨.pick (.l 5) (.l 10) (.c (.bool false)), none, none, []⟩,
    ⟨.mv (.l 11), none, none, []⟩,
    ⟨.fieldAddr 0 (.v 2), none, some ((.l 12), true), []⟩,
    ⟨.load false 1 (.l 13), none, some ((.l 12), true), []⟩,
    ⟨.fieldAddr 0 (.v 3), none, some ((.l 12), true), []⟩,
    ⟨.load false 1 (.l 15), none, some ((.l 12), true), []⟩,
    ⟨.call 15 [(.l 14), (.l 16)] [(0, 0)] true, none, some ((.l 12), true), []⟩,
    ⟨.pick (.l 12) (.l 17) (.c (.bool false)), none, none, []⟩,
    ⟨.mv (.l 18), some 4, none, []⟩]) (
  .ret))⟩

def X14 : XFn :=
 ⟨27, [0, 1, 4, 5, 10, 14, 26], 0, [(2, none)],
  .seq (
  .reg [⟨.mv (.c (.bool false)), some 2, none, []⟩]) (
  .seq (
  .seq (
  .reg [⟨.mv (.v 0), none, none, []⟩,
    ⟨.len false (.l 0), none, none, []⟩,
    ⟨.mv (.v 1), none, none, []⟩,
    ⟨.len false (.l 2), none, none, []⟩,
    ⟨.bin .neq false (.l 1) (.l 3), some 4, none, []⟩]) (
  .cond (.v 4) (
   .seq (
   .reg [⟨.mv (.c (.bool false)), some 2, none, []⟩]) (
   .ret)) (
   .skip))) (
  .seq (
  .seq (
  .reg [⟨.mv (.c (.int .i64 0)), some 3, none, []⟩]) (
  .block 0 (
   .loopS [0, 1, 3] 0 (
    .seq (
    .seq (
    .reg [⟨.mv (.v 3), none, none, []⟩,
      ⟨.mv (.v 0), none, none, []⟩,
      ⟨.len false (.l 1), none, none, []⟩,
      ⟨.bin .lss false (.l 0) (.l 2), some 5, none, []⟩]) (
    .cond (.v 5) (
     .skip) (
     .exit 0))) (
    .seq (
    .block 1 (
     .seq (
     .reg [⟨.mv (.v 0), none, none, []⟩,
       ⟨.mv (.v 3), none, none, []⟩,
       ⟨.indexAddr 1 (.l 0) (.l 1), none, none, []⟩,
       ⟨.load false 1 (.l 2), none, none, []⟩,
       ⟨.mv (.v 1), none, none, []⟩,
       ⟨.mv (.v 3), none, none, []⟩,
       ⟨.indexAddr 1 (.l 4) (.l 5), none, none, []⟩,
       ⟨.load false 1 (.l 6), none, none, []⟩,
       ⟨.call 15 [(.l 3), (.l 7)] [(0, 0)] false, none, none, []⟩,
       ⟨.un .not (.l 8), some 6, none, []⟩]) (
     .cond (.v 6) (
      .seq (
      .reg [⟨.mv (.c (.bool false)), some 2, none, []⟩]) (
      .ret)) (
      .skip)))) (
    .reg [⟨.mv (.v 3), none, none, []⟩,
      ⟨.bin .add false (.l 0) (.c (.int .i64 1)), none, none, []⟩,
      ⟨.mv (.l 1), some 3, none, []⟩])))))) (
  .seq (
  .reg [⟨.mv (.c (.bool true)), some 2, none, []⟩]) (
  .ret))))⟩

def X16 : XFn :=
 ⟨58, [0, 1, 4, 5, 6, 7, 8, 17, 29, 35, 55], 6, [(2, none)],
  .seq (
  .reg [⟨.mv (.c .nils), some 2, none, []⟩]) (
  .seq (
  .reg [⟨.mkarr 0 1 [] [], none, none, []⟩,
    ⟨.mv (.l 0), some 3, none, []⟩]) (
  .seq (
  .seq (
  .reg [⟨.mv (.c (.int .i64 0)), some 4, none, []⟩]) (
  .block 0 (
   .loopS [0, 1, 3, 4] 6 (
    .seq (
    .seq (
    .reg [⟨.mv (.v 4), none, none, []⟩,
      ⟨.mv (.v 0), none, none, []⟩,
      ⟨.len false (.l 1), none, none, []⟩,
      ⟨.bin .lss false (.l 0) (.l 2), none, none, []⟩,
      ⟨.mv (.l 3), none, none, []⟩,
      ⟨.mv (.v 4), none, some ((.l 4), true), []⟩,
      ⟨.bin .lss false (.l 5) (.c (.int .i64 6)), none, some ((.l 4), true), []⟩,
      ⟨.pick (.l 4) (.l 6) (.c (.bool false)), some 7, none, []⟩]) (
    .cond (.v 7) (
     .skip) (
     .exit 0))) (
    .seq (
    .block 1 (
     .seq (
     .reg [⟨.mv (.v 0), none, none, []⟩,
       ⟨.mv (.v 4), none, none, []⟩,
       ⟨.indexAddr 1 (.l 0) (.l 1), none, none, []⟩,
       ⟨.load false 1 (.l 2), none, none, []⟩,
       ⟨.conv .i64 (.l 3), none, none, []⟩,
       ⟨.mv (.v 1), none, none, []⟩,
       ⟨.bin .rem false (.l 4) (.l 5), none, none, []⟩,
       ⟨.bin .add false (.c (.int .i64 1)) (.l 6), none, none, []⟩,
       ⟨.mv (.l 7), some 5, none, []⟩]) (
     .seq (
     .seq (
     .reg [⟨.mv (.v 4), none, none, []⟩,
       ⟨.bin .gtr false (.l 0) (.c (.int .i64 0)), some 8, none, []⟩]) (
     .cond (.v 8) (
      .reg [⟨.mv (.v 3), none, none, []⟩,
        ⟨.mkarr 1 1 [(.int .u8 0)] [(0, (.c (.int .u8 0)))], none, none, []⟩,
        ⟨.append 2 1 1 1 (.l 0) (.l 1), none, none, []⟩,
        ⟨.mv (.l 2), some 3, none, []⟩]) (
      .skip))) (
     .seq (
     .reg [⟨.mv (.c (.int .i64 0)), some 6, none, []⟩]) (
     .block 2 (
      .loopS [0, 1, 3, 4, 5, 6] 6 (
       .seq (
       .seq (
       .reg [⟨.mv (.v 6), none, none, []⟩,
         ⟨.mv (.v 5), none, none, []⟩,
         ⟨.bin .lss false (.l 0) (.l 1), some 9, none, []⟩]) (
       .cond (.v 9) (
        .skip) (
        .exit 2))) (
       .seq (
       .block 3 (
        .reg [⟨.mv (.v 3), none, none, []⟩,
          ⟨.mv (.v 4), none, none, []⟩,
          ⟨.mv (.v 6), none, none, []⟩,
          ⟨.bin .add false (.l 1) (.l 2), none, none, []⟩,
          ⟨.mv (.v 0), none, none, []⟩,
          ⟨.mv (.v 4), none, none, []⟩,
          ⟨.indexAddr 1 (.l 4) (.l 5), none, none, []⟩,
          ⟨.load false 1 (.l 6), none, none, []⟩,
          ⟨.conv .i64 (.l 7), none, none, []⟩,
          ⟨.bin .add false (.l 3) (.l 8), none, none, []⟩,
          ⟨.bin .rem false (.l 9) (.c (.int .i64 62)), none, none, []⟩,
          ⟨.bin .add false (.c (.int .i64 1)) (.l 10), none, none, []⟩,
          ⟨.conv .u8 (.l 11), none, none, []⟩,
          ⟨.mkarr 3 1 [(.int .u8 0)] [(0, (.l 12))], none, none, []⟩,
          ⟨.append 4 1 1 1 (.l 0) (.l 13), none, none, []⟩,
          ⟨.mv (.l 14), some 3, none, []⟩])) (
       .reg [⟨.mv (.v 6), none, none, []⟩,
         ⟨.bin .add false (.l 0) (.c (.int .i64 1)), none, none, []⟩,
         ⟨.mv (.l 1), some 6, none, []⟩]))))))))) (
    .reg [⟨.mv (.v 4), none, none, []⟩,
      ⟨.bin .add false (.l 0) (.c (.int .i64 1)), none, none, []⟩,
      ⟨.mv (.l 1), some 4, none, []⟩])))))) (
  .seq (
  .seq (
  .reg [⟨.mv (.v 3), none, none, []⟩,
    ⟨.len false (.l 0), none, none, []⟩,
    ⟨.bin .eql false (.l 1) (.c (.int .i64 0)), some 10, none, []⟩]) (
  .cond (.v 10) (
   .seq (
   .reg [⟨.mkarr 5 1 [(.int .u8 0)] [(0, (.c (.int .u8 1)))], none, none, []⟩,
     ⟨.mv (.l 0), some 2, none, []⟩]) (
   .ret)) (
   .skip))) (
  .seq (
  .reg [⟨.mv (.v 3), none, none, []⟩,
    ⟨.mv (.l 0), some 2, none, []⟩]) (
  .ret)))))⟩

def X9 : XFn :=
 ⟨76, [0, 1, 2, 3, 4, 5, 6, 7, 8, 24, 31, 41, 65], 12, [(2, none)],
  .seq (
  .reg [⟨.box 0 (.v 0), some 1, none, []⟩,
    ⟨.mv (.c .nils), some 2, none, []⟩]) (
  .seq (
  .reg [⟨.fieldAddr 0 (.v 1), none, none, []⟩,
    ⟨.load false 1 (.l 0), none, none, []⟩,
    ⟨.bin .rem false (.l 1) (.c (.int .u8 4)), none, none, []⟩,
    ⟨.conv .i64 (.l 2), none, none, []⟩,
    ⟨.bin .add false (.c (.int .i64 1)) (.l 3), none, none, []⟩,
    ⟨.mkarr 1 1 [] [], none, none, []⟩,
    ⟨.mv (.l 4), some 3, none, []⟩,
    ⟨.mv (.l 5), some 4, none, []⟩]) (
  .seq (
  .seq (
  .reg [⟨.mv (.c (.int .i64 0)), some 5, none, []⟩]) (
  .block 0 (
   .loopS [1, 3, 4, 5] 12 (
    .seq (
    .seq (
    .reg [⟨.mv (.v 5), none, none, []⟩,
      ⟨.fieldAddr 2 (.v 1), none, none, []⟩,
      ⟨.load false 1 (.l 1), none, none, []⟩,
      ⟨.len false (.l 2), none, none, []⟩,
      ⟨.bin .lss false (.l 0) (.l 3), none, none, []⟩,
      ⟨.mv (.l 4), none, none, []⟩,
      ⟨.mv (.v 4), none, some ((.l 5), true), []⟩,
      ⟨.len false (.l 6), none, some ((.l 5), true), []⟩,
      ⟨.bin .lss false (.l 7) (.c (.int .i64 4)), none, some ((.l 5), true), []⟩,
      ⟨.pick (.l 5) (.l 8) (.c (.bool false)), some 9, none, []⟩]) (
    .cond (.v 9) (
     .skip) (
     .exit 0))) (
    .seq (
    .block 1 (
     .seq (
     .reg [⟨.mkarr 2 1 [] [], none, none, []⟩,
       ⟨.mv (.l 0), some 6, none, []⟩]) (
     .seq (
     .seq (
     .reg [⟨.mv (.c (.int .i64 0)), some 7, none, []⟩]) (
     .block 2 (
      .loopS [1, 3, 4, 5, 6, 7] 12 (
       .seq (
       .seq (
       .reg [⟨.mv (.v 7), none, none, []⟩,
         ⟨.mv (.v 3), none, none, []⟩,
         ⟨.bin .lss false (.l 0) (.l 1), some 10, none, []⟩]) (
       .cond (.v 10) (
        .skip) (
        .exit 2))) (
       .seq (
       .block 3 (
        .seq (
        .reg [⟨.mkarr 3 1 [] [], none, none, []⟩,
          ⟨.mv (.l 0), some 8, none, []⟩]) (
        .seq (
        .seq (
        .reg [⟨.mv (.v 5), none, none, []⟩,
          ⟨.mv (.v 7), none, none, []⟩,
          ⟨.bin .add false (.l 0) (.l 1), none, none, []⟩,
          ⟨.fieldAddr 2 (.v 1), none, none, []⟩,
          ⟨.load false 1 (.l 3), none, none, []⟩,
          ⟨.len false (.l 4), none, none, []⟩,
          ⟨.bin .lss false (.l 2) (.l 5), some 11, none, []⟩]) (
        .cond (.v 11) (
         .reg [⟨.fieldAddr 2 (.v 1), none, none, []⟩,
           ⟨.load false 1 (.l 0), none, none, []⟩,
           ⟨.mv (.v 5), none, none, []⟩,
           ⟨.mv (.v 7), none, none, []⟩,
           ⟨.bin .add false (.l 2) (.l 3), none, none, []⟩,
           ⟨.indexAddr 1 (.l 1) (.l 4), none, none, []⟩,
           ⟨.load false 1 (.l 5), none, none, []⟩,
           ⟨.mv (.l 6), some 8, none, []⟩]) (
         .skip))) (
        .reg [⟨.mv (.v 6), none, none, []⟩,
          ⟨.mv (.v 8), none, none, []⟩,
          ⟨.fieldAddr 1 (.v 1), none, none, []⟩,
          ⟨.load false 1 (.l 2), none, none, []⟩,
          ⟨.bin .rem false (.l 3) (.c (.int .u8 20)), none, none, []⟩,
          ⟨.conv .i64 (.l 4), none, none, []⟩,
          ⟨.bin .add false (.c (.int .i64 1)) (.l 5), none, none, []⟩,
          ⟨.call 16 [(.l 1), (.l 6)] [(4, 1)] true, none, none, []⟩,
          ⟨.mkarr 5 1 [.nils] [(0, (.l 7))], none, none, []⟩,
          ⟨.append 6 1 24 1 (.l 0) (.l 8), none, none, []⟩,
          ⟨.mv (.l 9), some 6, none, []⟩])))) (
       .reg [⟨.mv (.v 7), none, none, []⟩,
         ⟨.bin .add false (.l 0) (.c (.int .i64 1)), none, none, []⟩,
         ⟨.mv (.l 1), some 7, none, []⟩])))))) (
  .frz [(14, false)] (
     .reg [⟨.mv (.v 4), none, none, []⟩,
       ⟨.mv (.v 6), none, none, []⟩,
       ⟨.mkarr 7 1 [.nils] [(0, (.l 1))], none, none, []⟩,
       ⟨.append 8 1 24 1 (.l 0) (.l 2), none, none, []⟩,
       ⟨.mv (.l 3), some 4, none, []⟩]))))) (
    .reg [⟨.mv (.v 5), none, none, []⟩,
      ⟨.mv (.v 3), none, none, []⟩,
      ⟨.bin .add false (.l 0) (.l 1), none, none, []⟩,
      ⟨.mv (.l 2), some 5, none, []⟩])))))) (
  .seq (
  .seq (
  .reg [⟨.mv (.v 4), none, none, []⟩,
    ⟨.len false (.l 0), none, none, []⟩,
    ⟨.bin .eql false (.l 1) (.c (.int .i64 0)), some 12, none, []⟩]) (
  .cond (.v 12) (
   .reg [⟨.mv (.v 4), none, none, []⟩,
     ⟨.call 17 [(.c (.int .u8 0))] [(0, 0), (0, 0), (9, 6)] true, none, none, []⟩,
     ⟨.field false 2 1 (.l 1), none, none, []⟩,
     ⟨.indexAddr 6 (.l 2) (.c (.int .i64 0)), none, none, []⟩,
     ⟨.fieldAddr 1 (.l 3), none, none, []⟩,
     ⟨.load false 1 (.l 4), none, none, []⟩,
     ⟨.lit 1 [.nils] [(0, (.l 5))], none, none, []⟩,
     ⟨.mkarr 10 1 [.nils] [(0, (.l 6))], none, none, []⟩,
     ⟨.append 11 1 24 1 (.l 0) (.l 7), none, none, []⟩,
     ⟨.mv (.l 8), some 4, none, []⟩]) (
   .skip))) (
  .seq (
  .reg [⟨.mv (.v 4), none, none, []⟩,
    ⟨.mv (.l 0), some 2, none, []⟩]) (
  .ret)))))⟩

def X11 : XFn :=
 ⟨19, [0, 1, 4, 5, 6, 7], 2, [(2, some (true, 3))],
  .seq (
  .reg [⟨.alloc 0 [.nils, (.int .i64 0), (.int .i64 0)], some 2, none, []⟩]) (
  .seq (
  .reg [⟨.mv (.v 0), none, none, []⟩,
    ⟨.mv (.v 1), none, none, []⟩,
    ⟨.call 18 [(.l 0), (.l 1)] [(1, 1), (0, 0), (0, 0)] true, none, none, []⟩,
    ⟨.mv (.l 2), none, none, []⟩,
    ⟨.extract (.l 3) 0, none, none, []⟩,
    ⟨.extract (.l 3) 1, none, none, []⟩,
    ⟨.extract (.l 3) 2, none, none, []⟩,
    ⟨.mv (.l 4), some 3, none, []⟩,
    ⟨.mv (.l 5), some 4, none, []⟩,
    ⟨.mv (.l 6), some 5, none, []⟩]) (
  .seq (
  .reg [⟨.mv (.v 3), none, none, []⟩,
    ⟨.mv (.v 4), none, none, []⟩,
    ⟨.mv (.v 5), none, none, []⟩,
    ⟨.build [.nils, (.int .i64 0), (.int .i64 0)] [(0, 1, (.l 0)), (1, 1, (.l 1)), (2, 1, (.l 2))], none, none, []⟩,
    ⟨.store 3 (.v 2) (.l 3), none, none, []⟩]) (
  .ret)))⟩

def X33 : XFn :=
 ⟨36, [0, 2, 4, 21, 22, 23, 24, 25, 34], 0, [(1, none)],
  .seq (
  .reg [⟨.mv (.c (.bool false)), some 1, none, []⟩]) (
  .seq (
  .seq (
  .reg [⟨.mv (.v 0), none, none, []⟩,
    ⟨.len false (.l 0), none, none, []⟩,
    ⟨.bin .eql false (.l 1) (.c (.int .i64 0)), none, none, []⟩,
    ⟨.mv (.l 2), none, none, []⟩,
    ⟨.mv (.v 0), none, some ((.l 3), false), []⟩,
    ⟨.indexAddr 1 (.l 4) (.c (.int .i64 0)), none, some ((.l 3), false), []⟩,
    ⟨.load false 1 (.l 5), none, some ((.l 3), false), []⟩,
    ⟨.len false (.l 6), none, some ((.l 3), false), []⟩,
    ⟨.bin .lss false (.l 7) (.c (.int .i64 1)), none, some ((.l 3), false), []⟩,
    ⟨.pick (.l 3) (.c (.bool true)) (.l 8), none, none, []⟩,
    ⟨.mv (.l 9), none, none, []⟩,
    ⟨.mv (.v 0), none, some ((.l 10), false), []⟩,
    ⟨.indexAddr 1 (.l 11) (.c (.int .i64 0)), none, some ((.l 10), false), []⟩,
    ⟨.load false 1 (.l 12), none, some ((.l 10), false), []⟩,
    ⟨.len false (.l 13), none, some ((.l 10), false), []⟩,
    ⟨.bin .gtr false (.l 14) (.c (.int .i64 4)), none, some ((.l 10), false), []⟩,
    ⟨.pick (.l 10) (.c (.bool true)) (.l 15), some 3, none, []⟩]) (
  .cond (.v 3) (
   .seq (
   .reg [⟨.mv (.c (.bool false)), some 1, none, []⟩]) (
   .ret)) (
   .skip))) (
  .seq (
  .seq (
  .reg [⟨.mv (.v 0), some 4, none, []⟩,
    ⟨.len false (.l 0), some 5, none, []⟩,
    ⟨.mv (.c (.int .i64 0)), some 6, none, []⟩]) (
  .block 0 (
   .loopS [0, 4, 5, 6] 0 (
    .seq (
    .reg [⟨.bin .lss false (.v 6) (.v 5), some 7, none, []⟩]) (
    .seq (
    .cond (.v 7) (
     .skip) (
     .exit 0)) (
    .seq (
    .block 1 (
     .seq (
     .reg [⟨.indexAddr 1 (.v 4) (.v 6), none, none, []⟩,
       ⟨.load false 1 (.l 0), none, none, []⟩,
       ⟨.mv (.l 1), some 2, none, []⟩]) (
     .seq (
     .reg [⟨.mv (.v 2), none, none, []⟩,
       ⟨.len false (.l 0), none, none, []⟩,
       ⟨.mv (.v 0), none, none, []⟩,
       ⟨.indexAddr 1 (.l 2) (.c (.int .i64 0)), none, none, []⟩,
       ⟨.load false 1 (.l 3), none, none, []⟩,
       ⟨.len false (.l 4), none, none, []⟩,
       ⟨.bin .neq false (.l 1) (.l 5), some 8, none, []⟩]) (
     .cond (.v 8) (
      .seq (
      .reg [⟨.mv (.c (.bool false)), some 1, none, []⟩]) (
      .ret)) (
      .skip))))) (
    .reg [⟨.bin .add false (.v 6) (.c (.int .i64 1)), none, none, []⟩,
      ⟨.mv (.l 0), some 6, none, []⟩]))))))) (
  .seq (
  .reg [⟨.mv (.c (.bool true)), some 1, none, []⟩]) (
  .ret))))⟩

def X40 : XFn :=
 ⟨18, [0, 1, 4, 6, 7, 8, 9, 10, 16], 0, [(2, none)],
  .seq (
  .reg [⟨.mv (.c (.bool false)), some 2, none, []⟩]) (
  .seq (
  .seq (
  .reg [⟨.mv (.v 0), some 4, none, []⟩,
    ⟨.len false (.l 0), some 5, none, []⟩,
    ⟨.mv (.c (.int .i64 0)), some 6, none, []⟩]) (
  .block 0 (
   .loopS [1, 4, 5, 6] 0 (
    .seq (
    .reg [⟨.bin .lss false (.v 6) (.v 5), some 7, none, []⟩]) (
    .seq (
    .cond (.v 7) (
     .skip) (
     .exit 0)) (
    .seq (
    .block 1 (
     .seq (
     .reg [⟨.indexAddr 1 (.v 4) (.v 6), none, none, []⟩,
       ⟨.load false 1 (.l 0), none, none, []⟩,
       ⟨.mv (.l 1), some 3, none, []⟩]) (
     .seq (
     .reg [⟨.mv (.v 3), none, none, []⟩,
       ⟨.len false (.l 0), none, none, []⟩,
       ⟨.mv (.v 1), none, none, []⟩,
       ⟨.bin .gtr false (.l 1) (.l 2), some 8, none, []⟩]) (
     .cond (.v 8) (
      .seq (
      .reg [⟨.mv (.c (.bool false)), some 2, none, []⟩]) (
      .ret)) (
      .skip))))) (
    .reg [⟨.bin .add false (.v 6) (.c (.int .i64 1)), none, none, []⟩,
      ⟨.mv (.l 0), some 6, none, []⟩]))))))) (
  .seq (
  .reg [⟨.mv (.c (.bool true)), some 2, none, []⟩]) (
  .ret)))⟩

def X42 : XFn :=
 ⟨9, [0, 2], 1, [(1, some (true, 2))],
  .seq (
  .reg [⟨.allocA 0 [(.int .i64 0), (.int .i64 0)], some 1, none, []⟩]) (
  .seq (
  .reg [⟨.mv (.v 0), none, none, []⟩,
    ⟨.bin .mul false (.c (.int .i64 4)) (.l 0), none, none, []⟩,
    ⟨.mv (.v 0), none, none, []⟩,
    ⟨.bin .mul false (.c (.int .i64 4)) (.l 2), none, none, []⟩,
    ⟨.bin .add false (.l 3) (.c (.int .i64 2)), none, none, []⟩,
    ⟨.build [(.int .i64 0), (.int .i64 0)] [(0, 1, (.l 1)), (1, 1, (.l 4))], none, none, []⟩,
    ⟨.storeA 2 (.v 1) (.l 5), none, none, []⟩]) (
  .ret))⟩

def X30 : XFn :=
 ⟨16, [0, 1], 6, [(0, none)],
  .seq (
  .reg [⟨.mv (.c .nils), some 0, none, []⟩]) (
  .seq (
  .reg [⟨.build [(.int .i64 0), (.int .i64 0)] [], none, none, []⟩,
    ⟨.allocA 0 [(.int .i64 0), (.int .i64 0)], some 1, none, []⟩,
    ⟨.storeA 2 (.l 1) (.l 0), none, none, []⟩]) (
  .seq (
  .reg [⟨.lit 1 [(.int .u8 0)] [(0, (.c (.int .u8 1)))], none, none, []⟩,
    ⟨.loadA 2 (.v 1), none, none, []⟩,
    ⟨.call 32 [(.c (.str ⟨#[97]⟩)), (.l 0), (.l 1)] [(0, 0), (1, 1), (0, 0), (0, 0), (0, 0), (0, 0)] false, none, none, []⟩,
    ⟨.lit 1 [(.int .u8 0)] [(0, (.c (.int .u8 3)))], none, none, [1]⟩,
    ⟨.loadA 2 (.v 1), none, none, [1]⟩,
    ⟨.call 32 [(.c (.str ⟨#[98]⟩)), (.l 3), (.l 4)] [(0, 0), (2, 1), (0, 0), (0, 0), (0, 0), (0, 0)] false, none, none, []⟩,
    ⟨.lit 1 [(.int .u8 0)] [(0, (.c (.int .u8 9)))], none, none, [1, 2]⟩,
    ⟨.loadA 2 (.v 1), none, none, [1, 2]⟩,
    ⟨.call 32 [(.c (.str ⟨#[99]⟩)), (.l 6), (.l 7)] [(0, 0), (3, 1), (0, 0), (0, 0), (0, 0), (0, 0)] false, none, none, []⟩,
    ⟨.lit 1 [(.int .u8 0)] [(0, (.c (.int .u8 0)))], none, none, [1, 2, 3]⟩,
    ⟨.loadA 2 (.v 1), none, none, [1, 2, 3]⟩,
    ⟨.call 32 [(.c (.str ⟨#[32]⟩)), (.l 9), (.l 10)] [(0, 0), (4, 1), (0, 0), (0, 0), (0, 0), (0, 0)] false, none, none, []⟩,
    ⟨.mkarr 5 6 [(.agg [(.str ⟨#[]⟩), .nils, (.int .u8 0), (.int .u8 0), (.int .i64 0), (.int .i64 0)]), (.agg [(.str ⟨#[]⟩), .nils, (.int .u8 0), (.int .u8 0), (.int .i64 0), (.int .i64 0)]), (.agg [(.str ⟨#[]⟩), .nils, (.int .u8 0), (.int .u8 0), (.int .i64 0), (.int .i64 0)]), (.agg [(.str ⟨#[]⟩), .nils, (.int .u8 0), (.int .u8 0), (.int .i64 0), (.int .i64 0)])] [(0, (.l 2)), (1, (.l 5)), (2, (.l 8)), (3, (.l 11))], none, none, []⟩,
    ⟨.mv (.l 12), some 0, none, []⟩]) (
  .ret)))⟩

def X32 : XFn :=
 ⟨14, [0, 1, 2, 5, 6], 2, [(4, some (true, 6))],
  .seq (
  .reg [⟨.boxA 0 (.v 2), some 3, none, []⟩,
    ⟨.alloc 1 [(.str ⟨#[]⟩), .nils, (.int .u8 0), (.int .u8 0), (.int .i64 0), (.int .i64 0)], some 4, none, []⟩]) (
  .seq (
  .reg [⟨.mv (.v 0), none, none, []⟩,
    ⟨.mv (.v 1), none, none, []⟩,
    ⟨.indexAddrA 2 1 (.v 3) (.c (.int .i64 0)), none, none, []⟩,
    ⟨.load false 1 (.l 2), none, none, []⟩,
    ⟨.indexAddrA 2 1 (.v 3) (.c (.int .i64 1)), none, none, []⟩,
    ⟨.load false 1 (.l 4), none, none, []⟩,
    ⟨.build [(.str ⟨#[]⟩), .nils, (.int .u8 0), (.int .u8 0), (.int .i64 0), (.int .i64 0)] [(0, 1, (.l 0)), (1, 1, (.l 1)), (2, 1, (.c (.int .u8 63))), (3, 1, (.c (.int .u8 63))), (4, 1, (.l 3)), (5, 1, (.l 5))], none, none, []⟩,
    ⟨.store 6 (.v 4) (.l 6), none, none, []⟩]) (
  .ret))⟩

def X17 : XFn :=
 ⟨121, [0, 2, 3, 4, 5, 6, 7, 8, 9, 16, 17, 35, 50, 64, 72, 90, 105], 42, [(1, some (true, 3))],
  .seq (
  .reg [⟨.alloc 0 [(.int .i64 0), (.int .u8 0), .nils], some 1, none, []⟩]) (
  .seq (
  .reg [⟨.call 30 [] [(1, 6)] true, none, none, []⟩,
    ⟨.build [(.int .i64 0), (.int .i64 0)] [(0, 1, (.c (.int .i64 0))), (1, 1, (.c (.int .i64 0)))], none, none, []⟩,
    ⟨.build [(.int .i64 0), (.int .i64 0)] [(0, 1, (.c (.int .i64 0))), (1, 1, (.c (.int .i64 1)))], none, none, []⟩,
    ⟨.build [(.int .i64 0), (.int .i64 0)] [(0, 1, (.c (.int .i64 1))), (1, 1, (.c (.int .i64 1)))], none, none, []⟩,
    ⟨.build [(.int .i64 0), (.int .i64 0)] [(0, 1, (.c (.int .i64 1))), (1, 1, (.c (.int .i64 0)))], none, none, []⟩,
    ⟨.allocA 2 [(.int .i64 0), (.int .i64 0)], some 3, none, []⟩,
    ⟨.allocA 3 [(.int .i64 0), (.int .i64 0)], some 4, none, []⟩,
    ⟨.allocA 4 [(.int .i64 0), (.int .i64 0)], some 5, none, []⟩,
    ⟨.allocA 5 [(.int .i64 0), (.int .i64 0)], some 6, none, []⟩,
    ⟨.mv (.l 0), some 2, none, []⟩,
    ⟨.storeA 2 (.l 5) (.l 1), none, none, []⟩,
    ⟨.storeA 2 (.l 6) (.l 2), none, none, []⟩,
    ⟨.storeA 2 (.l 7) (.l 3), none, none, []⟩,
    ⟨.storeA 2 (.l 8) (.l 4), none, none, []⟩]) (
  .seq (
  .seq (
  .reg [⟨.mv (.v 0), none, none, []⟩,
    ⟨.bin .rem false (.l 0) (.c (.int .u8 8)), some 9, none, []⟩]) (
  .block 0 (
   .seq (
   .reg [⟨.bin .eql false (.v 9) (.c (.int .u8 1)), none, none, []⟩,
     ⟨.mv (.l 0), some 10, none, []⟩]) (
   .cond (.v 10) (
    .seq (
    .reg [⟨.mv (.v 2), none, none, [6, 7, 8, 9, 10]⟩,
      ⟨.loadA 2 (.v 4), none, none, []⟩,
      ⟨.call 31 [(.c (.int .u8 60)), (.c (.int .i64 3)), (.l 1)] [(0, 0), (6, 1), (0, 0), (0, 0), (0, 0), (0, 0)] false, none, none, []⟩,
      ⟨.lit 1 [(.int .u8 0)] [(0, (.c (.int .u8 1)))], none, none, [6]⟩,
      ⟨.loadA 2 (.v 5), none, none, [6]⟩,
      ⟨.call 32 [(.c (.str ⟨#[49]⟩)), (.l 3), (.l 4)] [(0, 0), (7, 1), (0, 0), (0, 0), (0, 0), (0, 0)] false, none, none, []⟩,
      ⟨.lit 1 [(.int .u8 0)] [(0, (.c (.int .u8 3)))], none, none, [6, 7]⟩,
      ⟨.loadA 2 (.v 5), none, none, [6, 7]⟩,
      ⟨.call 32 [(.c (.str ⟨#[50]⟩)), (.l 6), (.l 7)] [(0, 0), (8, 1), (0, 0), (0, 0), (0, 0), (0, 0)] false, none, none, []⟩,
      ⟨.lit 1 [(.int .u8 0)] [(0, (.c (.int .u8 0)))], none, none, [6, 7, 8]⟩,
      ⟨.loadA 2 (.v 6), none, none, [6, 7, 8]⟩,
      ⟨.call 32 [(.c (.str ⟨#[32]⟩)), (.l 9), (.l 10)] [(0, 0), (9, 1), (0, 0), (0, 0), (0, 0), (0, 0)] false, none, none, []⟩,
      ⟨.mkarr 10 6 [(.agg [(.str ⟨#[]⟩), .nils, (.int .u8 0), (.int .u8 0), (.int .i64 0), (.int .i64 0)]), (.agg [(.str ⟨#[]⟩), .nils, (.int .u8 0), (.int .u8 0), (.int .i64 0), (.int .i64 0)]), (.agg [(.str ⟨#[]⟩), .nils, (.int .u8 0), (.int .u8 0), (.int .i64 0), (.int .i64 0)]), (.agg [(.str ⟨#[]⟩), .nils, (.int .u8 0), (.int .u8 0), (.int .i64 0), (.int .i64 0)])] [(0, (.l 2)), (1, (.l 5)), (2, (.l 8)), (3, (.l 11))], none, none, []⟩,
      ⟨.append 11 6 64 1 (.l 0) (.l 12), none, none, []⟩,
      ⟨.mv (.l 13), some 2, none, []⟩]) (
    .seq (
    .reg [⟨.mv (.v 2), none, none, []⟩,
      ⟨.build [(.int .i64 0), (.int .u8 0), .nils] [(0, 1, (.c (.int .i64 2))), (1, 1, (.c (.int .u8 3))), (2, 1, (.l 0))], none, none, []⟩,
      ⟨.store 3 (.v 1) (.l 1), none, none, []⟩]) (
    .ret))) (
    .seq (
    .reg [⟨.bin .eql false (.v 9) (.c (.int .u8 2)), none, none, []⟩,
      ⟨.mv (.l 0), some 11, none, []⟩]) (
    .cond (.v 11) (
     .seq (
     .reg [⟨.mv (.v 2), none, none, [12, 13, 14, 15]⟩,
       ⟨.loadA 2 (.v 4), none, none, []⟩,
       ⟨.call 31 [(.c (.int .u8 32)), (.c (.int .i64 2)), (.l 1)] [(0, 0), (12, 1), (0, 0), (0, 0), (0, 0), (0, 0)] false, none, none, []⟩,
       ⟨.lit 1 [(.int .u8 0)] [(0, (.c (.int .u8 1)))], none, none, [12]⟩,
       ⟨.loadA 2 (.v 6), none, none, [12]⟩,
       ⟨.call 32 [(.c (.str ⟨#[65]⟩)), (.l 3), (.l 4)] [(0, 0), (13, 1), (0, 0), (0, 0), (0, 0), (0, 0)] false, none, none, []⟩,
       ⟨.lit 1 [(.int .u8 0)] [(0, (.c (.int .u8 3)))], none, none, [12, 13]⟩,
       ⟨.loadA 2 (.v 6), none, none, [12, 13]⟩,
       ⟨.call 32 [(.c (.str ⟨#[66]⟩)), (.l 6), (.l 7)] [(0, 0), (14, 1), (0, 0), (0, 0), (0, 0), (0, 0)] false, none, none, []⟩,
       ⟨.mkarr 15 6 [(.agg [(.str ⟨#[]⟩), .nils, (.int .u8 0), (.int .u8 0), (.int .i64 0), (.int .i64 0)]), (.agg [(.str ⟨#[]⟩), .nils, (.int .u8 0), (.int .u8 0), (.int .i64 0), (.int .i64 0)]), (.agg [(.str ⟨#[]⟩), .nils, (.int .u8 0), (.int .u8 0), (.int .i64 0), (.int .i64 0)])] [(0, (.l 2)), (1, (.l 5)), (2, (.l 8))], none, none, []⟩,
       ⟨.append 16 6 64 1 (.l 0) (.l 9), none, none, []⟩,
       ⟨.mv (.l 10), some 2, none, []⟩]) (
     .seq (
     .reg [⟨.mv (.v 2), none, none, []⟩,
       ⟨.build [(.int .i64 0), (.int .u8 0), .nils] [(0, 1, (.c (.int .i64 2))), (1, 1, (.c (.int .u8 1))), (2, 1, (.l 0))], none, none, []⟩,
       ⟨.store 3 (.v 1) (.l 1), none, none, []⟩]) (
     .ret))) (
     .seq (
     .reg [⟨.bin .eql false (.v 9) (.c (.int .u8 3)), none, none, []⟩,
       ⟨.mv (.l 0), some 12, none, []⟩]) (
     .cond (.v 12) (
      .reg [⟨.mv (.v 2), none, none, [17, 18, 19, 20]⟩,
        ⟨.lit 1 [(.int .u8 0)] [(0, (.c (.int .u8 7)))], none, none, []⟩,
        ⟨.loadA 2 (.v 3), none, none, []⟩,
        ⟨.call 32 [(.c (.str ⟨#[97, 98]⟩)), (.l 1), (.l 2)] [(0, 0), (17, 1), (0, 0), (0, 0), (0, 0), (0, 0)] false, none, none, []⟩,
        ⟨.lit 1 [(.int .u8 0)] [(0, (.c (.int .u8 15)))], none, none, [17]⟩,
        ⟨.loadA 2 (.v 3), none, none, [17]⟩,
        ⟨.call 32 [(.c (.str ⟨#[97, 98, 99]⟩)), (.l 4), (.l 5)] [(0, 0), (18, 1), (0, 0), (0, 0), (0, 0), (0, 0)] false, none, none, []⟩,
        ⟨.lit 1 [(.int .u8 0), (.int .u8 0)] [(0, (.c (.int .u8 4))), (1, (.c (.int .u8 4)))], none, none, [17, 18]⟩,
        ⟨.loadA 2 (.v 3), none, none, [17, 18]⟩,
        ⟨.call 32 [(.c (.str ⟨#[99, 97]⟩)), (.l 7), (.l 8)] [(0, 0), (19, 1), (0, 0), (0, 0), (0, 0), (0, 0)] false, none, none, []⟩,
        ⟨.mkarr 20 6 [(.agg [(.str ⟨#[]⟩), .nils, (.int .u8 0), (.int .u8 0), (.int .i64 0), (.int .i64 0)]), (.agg [(.str ⟨#[]⟩), .nils, (.int .u8 0), (.int .u8 0), (.int .i64 0), (.int .i64 0)]), (.agg [(.str ⟨#[]⟩), .nils, (.int .u8 0), (.int .u8 0), (.int .i64 0), (.int .i64 0)])] [(0, (.l 3)), (1, (.l 6)), (2, (.l 9))], none, none, []⟩,
        ⟨.append 21 6 64 1 (.l 0) (.l 10), none, none, []⟩,
        ⟨.mv (.l 11), some 2, none, []⟩]) (
      .seq (
      .reg [⟨.bin .eql false (.v 9) (.c (.int .u8 4)), none, none, []⟩,
        ⟨.mv (.l 0), some 13, none, []⟩]) (
      .cond (.v 13) (
       .reg [⟨.mv (.v 2), none, none, []⟩,
         ⟨.lit 1 [(.int .u8 0), (.int .u8 0)] [(0, (.c (.int .u8 1))), (1, (.c (.int .u8 3)))], none, none, []⟩,
         ⟨.loadA 2 (.v 3), none, none, []⟩,
         ⟨.call 32 [(.c (.str ⟨#[45]⟩)), (.l 1), (.l 2)] [(0, 0), (22, 1), (0, 0), (0, 0), (0, 0), (0, 0)] true, none, none, []⟩,
         ⟨.mkarr 23 6 [(.agg [(.str ⟨#[]⟩), .nils, (.int .u8 0), (.int .u8 0), (.int .i64 0), (.int .i64 0)])] [(0, (.l 3))], none, none, []⟩,
         ⟨.append 24 6 64 1 (.l 0) (.l 4), none, none, []⟩,
         ⟨.mv (.l 5), some 2, none, []⟩]) (
       .seq (
       .reg [⟨.bin .eql false (.v 9) (.c (.int .u8 5)), none, none, []⟩,
         ⟨.mv (.l 0), some 14, none, []⟩]) (
       .cond (.v 14) (
        .seq (
        .reg [⟨.lit 1 [(.int .u8 0)] [(0, (.c (.int .u8 44)))], none, none, [27, 28]⟩,
          ⟨.loadA 2 (.v 3), none, none, [27, 28]⟩,
          ⟨.call 32 [(.c (.str ⟨#[98]⟩)), (.l 0), (.l 1)] [(0, 0), (25, 1), (0, 0), (0, 0), (0, 0), (0, 0)] false, none, none, [27, 28]⟩,
          ⟨.lit 1 [(.int .u8 0)] [(0, (.c (.int .u8 44)))], none, none, [25, 27, 28]⟩,
          ⟨.loadA 2 (.v 3), none, none, [25, 27, 28]⟩,
          ⟨.call 32 [(.c (.str ⟨#[99, 97, 98]⟩)), (.l 3), (.l 4)] [(0, 0), (26, 1), (0, 0), (0, 0), (0, 0), (0, 0)] false, none, none, [27, 28]⟩,
          ⟨.alloc 27 [(.str ⟨#[]⟩), .nils, (.int .u8 0), (.int .u8 0), (.int .i64 0), (.int .i64 0)], some 7, none, [25, 26, 28]⟩,
          ⟨.alloc 28 [(.str ⟨#[]⟩), .nils, (.int .u8 0), (.int .u8 0), (.int .i64 0), (.int .i64 0)], some 8, none, [25, 26, 27]⟩,
          ⟨.store 6 (.l 6) (.l 2), none, none, []⟩,
          ⟨.store 6 (.l 7) (.l 5), none, none, []⟩]) (
        .seq (
        .reg [⟨.fieldAddr 2 (.v 7), none, none, []⟩,
          ⟨.store 1 (.l 0) (.c (.int .u8 17)), none, none, []⟩,
          ⟨.fieldAddr 2 (.v 8), none, none, []⟩,
          ⟨.store 1 (.l 2) (.c (.int .u8 2)), none, none, []⟩]) (
        .reg [⟨.mv (.v 2), none, none, [29, 30]⟩,
          ⟨.load true 6 (.v 7), none, none, [29]⟩,
          ⟨.load true 6 (.v 8), none, none, [29]⟩,
          ⟨.lit 1 [(.int .u8 0)] [(0, (.c (.int .u8 36)))], none, none, []⟩,
          ⟨.loadA 2 (.v 3), none, none, []⟩,
          ⟨.call 32 [(.c (.str ⟨#[45]⟩)), (.l 3), (.l 4)] [(0, 0), (29, 1), (0, 0), (0, 0), (0, 0), (0, 0)] false, none, none, []⟩,
          ⟨.mkarr 30 6 [(.agg [(.str ⟨#[]⟩), .nils, (.int .u8 0), (.int .u8 0), (.int .i64 0), (.int .i64 0)]), (.agg [(.str ⟨#[]⟩), .nils, (.int .u8 0), (.int .u8 0), (.int .i64 0), (.int .i64 0)]), (.agg [(.str ⟨#[]⟩), .nils, (.int .u8 0), (.int .u8 0), (.int .i64 0), (.int .i64 0)])] [(0, (.l 1)), (1, (.l 2)), (2, (.l 5))], none, none, []⟩,
          ⟨.append 31 6 64 1 (.l 0) (.l 6), none, none, []⟩,
          ⟨.mv (.l 7), some 2, none, []⟩]))) (
        .seq (
        .reg [⟨.bin .eql false (.v 9) (.c (.int .u8 6)), none, none, []⟩,
          ⟨.mv (.l 0), some 15, none, []⟩]) (
        .cond (.v 15) (
         .seq (
         .reg [⟨.mv (.v 2), none, none, [32, 33, 34, 35]⟩,
           ⟨.loadA 2 (.v 4), none, none, []⟩,
           ⟨.call 31 [(.c (.int .u8 40)), (.c (.int .i64 1)), (.l 1)] [(0, 0), (32, 1), (0, 0), (0, 0), (0, 0), (0, 0)] false, none, none, []⟩,
           ⟨.lit 1 [(.int .u8 0)] [(0, (.c (.int .u8 1)))], none, none, [32]⟩,
           ⟨.loadA 2 (.v 6), none, none, [32]⟩,
           ⟨.call 32 [(.c (.str ⟨#[225]⟩)), (.l 3), (.l 4)] [(0, 0), (33, 1), (0, 0), (0, 0), (0, 0), (0, 0)] false, none, none, []⟩,
           ⟨.lit 1 [(.int .u8 0)] [(0, (.c (.int .u8 3)))], none, none, [32, 33]⟩,
           ⟨.loadA 2 (.v 6), none, none, [32, 33]⟩,
           ⟨.call 32 [(.c (.str ⟨#[226]⟩)), (.l 6), (.l 7)] [(0, 0), (34, 1), (0, 0), (0, 0), (0, 0), (0, 0)] false, none, none, []⟩,
           ⟨.mkarr 35 6 [(.agg [(.str ⟨#[]⟩), .nils, (.int .u8 0), (.int .u8 0), (.int .i64 0), (.int .i64 0)]), (.agg [(.str ⟨#[]⟩), .nils, (.int .u8 0), (.int .u8 0), (.int .i64 0), (.int .i64 0)]), (.agg [(.str ⟨#[]⟩), .nils, (.int .u8 0), (.int .u8 0), (.int .i64 0), (.int .i64 0)])] [(0, (.l 2)), (1, (.l 5)), (2, (.l 8))], none, none, []⟩,
           ⟨.append 36 6 64 1 (.l 0) (.l 9), none, none, []⟩,
           ⟨.mv (.l 10), some 2, none, []⟩]) (
         .seq (
         .reg [⟨.mv (.v 2), none, none, []⟩,
           ⟨.build [(.int .i64 0), (.int .u8 0), .nils] [(0, 1, (.c (.int .i64 2))), (1, 1, (.c (.int .u8 1))), (2, 1, (.l 0))], none, none, []⟩,
           ⟨.store 3 (.v 1) (.l 1), none, none, []⟩]) (
         .ret))) (
         .seq (
         .reg [⟨.bin .eql false (.v 9) (.c (.int .u8 7)), none, none, []⟩,
           ⟨.mv (.l 0), some 16, none, []⟩]) (
         .cond (.v 16) (
          .reg [⟨.mv (.v 2), none, none, [37, 38, 39, 40]⟩,
            ⟨.lit 1 [(.int .u8 0), (.int .u8 0)] [(0, (.c (.int .u8 1))), (1, (.c (.int .u8 5)))], none, none, []⟩,
            ⟨.loadA 2 (.v 3), none, none, []⟩,
            ⟨.call 32 [(.c (.str ⟨#[45]⟩)), (.l 1), (.l 2)] [(0, 0), (37, 1), (0, 0), (0, 0), (0, 0), (0, 0)] false, none, none, []⟩,
            ⟨.lit 1 [(.int .u8 0), (.int .u8 0)] [(0, (.c (.int .u8 5))), (1, (.c (.int .u8 5)))], none, none, [37]⟩,
            ⟨.loadA 2 (.v 3), none, none, [37]⟩,
            ⟨.call 32 [(.c (.str ⟨#[49]⟩)), (.l 4), (.l 5)] [(0, 0), (38, 1), (0, 0), (0, 0), (0, 0), (0, 0)] false, none, none, []⟩,
            ⟨.lit 1 [(.int .u8 0), (.int .u8 0)] [(0, (.c (.int .u8 5))), (1, (.c (.int .u8 9)))], none, none, [37, 38]⟩,
            ⟨.loadA 2 (.v 3), none, none, [37, 38]⟩,
            ⟨.call 32 [(.c (.str ⟨#[50]⟩)), (.l 7), (.l 8)] [(0, 0), (39, 1), (0, 0), (0, 0), (0, 0), (0, 0)] false, none, none, []⟩,
            ⟨.mkarr 40 6 [(.agg [(.str ⟨#[]⟩), .nils, (.int .u8 0), (.int .u8 0), (.int .i64 0), (.int .i64 0)]), (.agg [(.str ⟨#[]⟩), .nils, (.int .u8 0), (.int .u8 0), (.int .i64 0), (.int .i64 0)]), (.agg [(.str ⟨#[]⟩), .nils, (.int .u8 0), (.int .u8 0), (.int .i64 0), (.int .i64 0)])] [(0, (.l 3)), (1, (.l 6)), (2, (.l 9))], none, none, []⟩,
            ⟨.append 41 6 64 1 (.l 0) (.l 10), none, none, []⟩,
            ⟨.mv (.l 11), some 2, none, []⟩]) (
          .skip))))))))))))))))) (
  .seq (
  .reg [⟨.mv (.v 2), none, none, []⟩,
    ⟨.build [(.int .i64 0), (.int .u8 0), .nils] [(0, 1, (.c (.int .i64 1))), (1, 1, (.c (.int .u8 1))), (2, 1, (.l 0))], none, none, []⟩,
    ⟨.store 3 (.v 1) (.l 1), none, none, []⟩]) (
  .ret))))⟩

theorem c20 : compFn Try.prog 20 = some { X20 with body := strip X20.body } := by kernel_rfl
theorem c19 : compFn Try.prog 19 = some { X19 with body := strip X19.body } := by kernel_rfl
theorem c43 : compFn Try.prog 43 = some { X43 with body := strip X43.body } := by kernel_rfl
theorem c21 : compFn Try.prog 21 = some { X21 with body := strip X21.body } := by kernel_rfl
theorem c22 : compFn Try.prog 22 = some { X22 with body := strip X22.body } := by kernel_rfl
theorem c23 : compFn Try.prog 23 = some { X23 with body := strip X23.body } := by kernel_rfl
theorem c24 : compFn Try.prog 24 = some { X24 with body := strip X24.body } := by kernel_rfl
theorem c25 : compFn Try.prog 25 = some { X25 with body := strip X25.body } := by kernel_rfl
theorem c12 : compFn Try.prog 12 = some { X12 with body := strip X12.body } := by kernel_rfl
theorem c10 : compFn Try.prog 10 = some { X10 with body := strip X10.body } := by kernel_rfl
theorem c14 : compFn Try.prog 14 = some { X14 with body := strip X14.body } := by kernel_rfl
theorem c16 : compFn Try.prog 16 = some { X16 with body := strip X16.body } := by kernel_rfl
theorem c9 : compFn Try.prog 9 = some { X9 with body := strip X9.body } := by kernel_rfl
theorem c11 : compFn Try.prog 11 = some { X11 with body := strip X11.body } := by kernel_rfl
theorem c33 : compFn Try.prog 33 = some { X33 with body := strip X33.body } := by kernel_rfl
theorem c40 : compFn Try.prog 40 = some { X40 with body := strip X40.body } := by kernel_rfl
theorem c42 : compFn Try.prog 42 = some { X42 with body := strip X42.body } := by kernel_rfl
theorem c30 : compFn Try.prog 30 = some { X30 with body := strip X30.body } := by kernel_rfl
theorem c32 : compFn Try.prog 32 = some { X32 with body := strip X32.body } := by kernel_rfl
theorem c17 : compFn Try.prog 17 = some { X17 with body := strip X17.body } := by kernel_rfl
end Go.Proofs.Ytfpkcjjgooigbaa.C
