/-
  Chapter 20: reading columns, as the machine takes it (printed).
-/
import Derived.Test.YtfpkcjjgooigbaaProg
import Derived.KernelRfl
import Derived.Test.YtfpkcjjgooigbaaMg4
namespace Go.Proofs.Ytfpkcjjgooigbaa.C
set_option linter.unusedSimpArgs false
set_option linter.unusedVariables false
set_option linter.unusedSectionVars false
open Go.Proofs.Ytfpkcjjgooigbaa.Am
def X13 : XFn :=
 ⟨49, [0, 1, 2, 6, 7, 8, 9, 20, 21, 22, 30, 38, 47], 3, [(3, none), (4, none)],
  .seq (
  .reg [⟨.mv (.c .nils), some 3, none, []⟩,
    ⟨.mv (.c (.int .i64 0)), some 4, none, []⟩]) (
  .seq (
  .seq (
  .reg [⟨.mv (.v 2), none, none, []⟩,
    ⟨.bin .lss false (.l 0) (.c (.int .i64 1)), none, none, []⟩,
    ⟨.mv (.l 1), none, none, []⟩,
    ⟨.mv (.v 2), none, some ((.l 2), false), []⟩,
    ⟨.bin .gtr false (.l 3) (.c (.int .i64 4)), none, some ((.l 2), false), []⟩,
    ⟨.pick (.l 2) (.c (.bool true)) (.l 4), none, none, []⟩,
    ⟨.mv (.l 5), none, none, []⟩,
    ⟨.mv (.v 0), none, some ((.l 6), false), []⟩,
    ⟨.len false (.l 7), none, some ((.l 6), false), []⟩,
    ⟨.bin .eql false (.l 8) (.c (.int .i64 0)), none, some ((.l 6), false), []⟩,
    ⟨.pick (.l 6) (.c (.bool true)) (.l 9), some 7, none, []⟩]) (
  .cond (.v 7) (
   .seq (
   .reg [⟨.mv (.c .nils), some 3, none, []⟩,
     ⟨.mv (.c (.int .i64 200)), some 4, none, []⟩]) (
   .ret)) (
   .skip))) (
  .seq (
  .reg [⟨.mv (.c .nils), some 5, none, []⟩]) (
  .seq (
  .reg [⟨.mv (.c (.bool false)), some 6, none, []⟩]) (
  .seq (
  .seq (
  .reg [⟨.mv (.v 1), some 8, none, []⟩]) (
  .block 0 (
   .seq (
   .reg [⟨.bin .eql false (.v 8) (.c (.int .i64 1)), none, none, []⟩,
     ⟨.mv (.l 0), some 9, none, []⟩]) (
   .cond (.v 9) (
    .reg [⟨.mv (.v 0), none, none, []⟩,
      ⟨.mv (.v 2), none, none, []⟩,
      ⟨.call 26 [(.l 0), (.l 1)] [(0, 1), (0, 0)] true, none, none, []⟩,
      ⟨.mv (.l 2), none, none, []⟩,
      ⟨.extract (.l 3) 0, none, none, []⟩,
      ⟨.extract (.l 3) 1, none, none, []⟩,
      ⟨.mv (.l 4), some 5, none, []⟩,
      ⟨.mv (.l 5), some 6, none, []⟩]) (
    .seq (
    .reg [⟨.bin .eql false (.v 8) (.c (.int .i64 2)), none, none, []⟩,
      ⟨.mv (.l 0), some 10, none, []⟩]) (
    .cond (.v 10) (
     .reg [⟨.mv (.v 0), none, none, []⟩,
       ⟨.mv (.v 2), none, none, []⟩,
       ⟨.call 27 [(.l 0), (.l 1)] [(1, 1), (0, 0)] true, none, none, []⟩,
       ⟨.mv (.l 2), none, none, []⟩,
       ⟨.extract (.l 3) 0, none, none, []⟩,
       ⟨.extract (.l 3) 1, none, none, []⟩,
       ⟨.mv (.l 4), some 5, none, []⟩,
       ⟨.mv (.l 5), some 6, none, []⟩]) (
     .seq (
     .reg [⟨.bin .eql false (.v 8) (.c (.int .i64 3)), none, none, []⟩,
       ⟨.mv (.l 0), some 11, none, []⟩]) (
     .cond (.v 11) (
      .reg [⟨.mv (.v 0), none, none, []⟩,
        ⟨.mv (.v 2), none, none, []⟩,
        ⟨.call 28 [(.l 0), (.l 1)] [(2, 1), (0, 0)] true, none, none, []⟩,
        ⟨.mv (.l 2), none, none, []⟩,
        ⟨.extract (.l 3) 0, none, none, []⟩,
        ⟨.extract (.l 3) 1, none, none, []⟩,
        ⟨.mv (.l 4), some 5, none, []⟩,
        ⟨.mv (.l 5), some 6, none, []⟩]) (
      .skip))))))))) (
  .seq (
  .seq (
  .reg [⟨.mv (.v 6), none, none, []⟩,
    ⟨.un .not (.l 0), some 12, none, []⟩]) (
  .cond (.v 12) (
   .seq (
   .reg [⟨.mv (.c .nils), some 3, none, []⟩,
     ⟨.mv (.c (.int .i64 200)), some 4, none, []⟩]) (
   .ret)) (
   .skip))) (
  .seq (
  .reg [⟨.mv (.v 5), none, none, []⟩,
    ⟨.mv (.l 0), some 3, none, []⟩,
    ⟨.mv (.c (.int .i64 0)), some 4, none, []⟩]) (
  .ret)))))))⟩

def X26 : XFn :=
 ⟨77, [0, 1, 4, 5, 6, 8, 9, 11, 13, 14, 15, 16, 17, 18, 19, 20, 28, 29, 30, 31, 32, 41, 50, 51, 52, 53, 70], 4, [(2, none), (3, none)],
  .seq (
  .reg [⟨.mv (.c .nils), some 2, none, []⟩,
    ⟨.mv (.c (.bool false)), some 3, none, []⟩]) (
  .seq (
  .reg [⟨.mv (.c .nils), some 4, none, []⟩]) (
  .mat 4 none 2 1 (
  .seq (
  .seq (
  .reg [⟨.mv (.v 0), some 12, none, []⟩,
    ⟨.len false (.l 0), some 13, none, []⟩,
    ⟨.mv (.c (.int .i64 0)), some 14, none, []⟩]) (
  .block 0 (
   .loopS [0, 1, 4, 12, 13, 14] 4 (
    .seq (
    .reg [⟨.bin .lss false (.v 14) (.v 13), some 15, none, []⟩]) (
    .seq (
    .cond (.v 15) (
     .skip) (
     .exit 0)) (
    .seq (
    .block 1 (
     .seq (
     .reg [⟨.indexAddr 1 (.v 12) (.v 14), none, none, []⟩,
       ⟨.load false 1 (.l 0), none, none, []⟩,
       ⟨.mv (.l 1), some 5, none, []⟩]) (
     .seq (
     .reg [⟨.mv (.v 5), none, none, []⟩,
       ⟨.call 45 [(.l 0)] [(0, 1)] true, none, none, []⟩,
       ⟨.mv (.l 1), some 6, none, []⟩]) (
     .seq (
     .seq (
     .reg [⟨.mv (.v 6), none, none, []⟩,
       ⟨.len false (.l 0), none, none, []⟩,
       ⟨.mv (.v 1), none, none, []⟩,
       ⟨.bin .neq false (.l 1) (.l 2), some 16, none, []⟩]) (
     .cond (.v 16) (
      .seq (
      .reg [⟨.mv (.c .nils), some 2, none, []⟩,
        ⟨.mv (.c (.bool false)), some 3, none, []⟩]) (
      .ret)) (
      .skip))) (
     .seq (
     .seq (
     .reg [⟨.mv (.v 6), some 17, none, []⟩,
       ⟨.len false (.l 0), some 18, none, []⟩,
       ⟨.mv (.c (.int .i64 0)), some 19, none, []⟩]) (
     .block 2 (
      .loopS [0, 1, 4, 6, 12, 13, 14, 17, 18, 19] 4 (
       .seq (
       .reg [⟨.bin .lss false (.v 19) (.v 18), some 20, none, []⟩]) (
       .seq (
       .cond (.v 20) (
        .skip) (
        .exit 2)) (
       .seq (
       .block 3 (
        .seq (
        .reg [⟨.indexAddr 1 (.v 17) (.v 19), none, none, []⟩,
          ⟨.load false 1 (.l 0), none, none, []⟩,
          ⟨.mv (.l 1), some 7, none, []⟩]) (
        .seq (
        .reg [⟨.mv (.v 7), none, none, []⟩,
          ⟨.call 35 [(.l 0)] [(0, 0), (0, 0)] true, none, none, []⟩,
          ⟨.mv (.l 1), none, none, []⟩,
          ⟨.extract (.l 2) 0, none, none, []⟩,
          ⟨.extract (.l 2) 1, none, none, []⟩,
          ⟨.mv (.l 3), none, none, []⟩,
          ⟨.mv (.l 4), some 8, none, []⟩]) (
        .seq (
        .reg [⟨.mv (.v 8), none, none, []⟩,
          ⟨.un .not (.l 0), some 21, none, []⟩]) (
        .cond (.v 21) (
         .seq (
         .reg [⟨.mv (.c .nils), some 2, none, []⟩,
           ⟨.mv (.c (.bool false)), some 3, none, []⟩]) (
         .ret)) (
         .skip)))))) (
       .reg [⟨.bin .add false (.v 19) (.c (.int .i64 1)), none, none, []⟩,
         ⟨.mv (.l 0), some 19, none, []⟩]))))))) (
     .reg [⟨.mv (.v 4), none, none, []⟩,
       ⟨.mv (.v 6), none, none, []⟩,
       ⟨.mkarr 1 1 [.nils] [(0, (.l 1))], none, none, []⟩,
       ⟨.append 2 1 24 1 (.l 0) (.l 2), none, none, []⟩,
       ⟨.mv (.l 3), some 4, none, []⟩])))))) (
    .reg [⟨.bin .add false (.v 14) (.c (.int .i64 1)), none, none, []⟩,
      ⟨.mv (.l 0), some 14, none, []⟩]))))))) (
  .seq (
  .reg [⟨.mv (.v 4), none, none, []⟩,
    ⟨.call 36 [(.l 0)] [(0, 0)] true, none, none, []⟩,
    ⟨.mv (.l 1), some 9, none, []⟩]) (
  .seq (
  .seq (
  .reg [⟨.mv (.v 4), some 22, none, []⟩,
    ⟨.len false (.l 0), some 23, none, []⟩,
    ⟨.mv (.c (.int .i64 0)), some 24, none, []⟩]) (
  .block 4 (
   .loopS [0, 1, 4, 9, 22, 23, 24] 4 (
    .seq (
    .reg [⟨.bin .lss false (.v 24) (.v 23), some 25, none, []⟩]) (
    .seq (
    .cond (.v 25) (
     .skip) (
     .exit 4)) (
    .seq (
    .block 5 (
     .seq (
     .reg [⟨.mv (.v 24), none, none, []⟩,
       ⟨.indexAddr 1 (.v 22) (.v 24), none, none, []⟩,
       ⟨.load false 1 (.l 1), none, none, []⟩,
       ⟨.mv (.l 0), some 10, none, []⟩,
       ⟨.mv (.l 2), some 11, none, []⟩]) (
     .seq (
     .reg [⟨.mv (.v 0), none, none, []⟩,
       ⟨.mv (.v 10), none, none, []⟩,
       ⟨.indexAddr 1 (.l 0) (.l 1), none, none, []⟩,
       ⟨.load false 1 (.l 2), none, none, []⟩,
       ⟨.len false (.l 3), none, none, []⟩,
       ⟨.mv (.v 9), none, none, []⟩,
       ⟨.mv (.v 11), none, none, []⟩,
       ⟨.mv (.v 1), none, none, []⟩,
       ⟨.bin .sub false (.l 7) (.c (.int .i64 1)), none, none, []⟩,
       ⟨.indexAddr 1 (.l 6) (.l 8), none, none, []⟩,
       ⟨.load false 1 (.l 9), none, none, []⟩,
       ⟨.len false (.l 10), none, none, []⟩,
       ⟨.bin .add false (.l 5) (.l 11), none, none, []⟩,
       ⟨.bin .neq false (.l 4) (.l 12), some 26, none, []⟩]) (
     .cond (.v 26) (
      .seq (
      .reg [⟨.mv (.c .nils), some 2, none, []⟩,
        ⟨.mv (.c (.bool false)), some 3, none, []⟩]) (
      .ret)) (
      .skip))))) (
    .reg [⟨.bin .add false (.v 24) (.c (.int .i64 1)), none, none, []⟩,
      ⟨.mv (.l 0), some 24, none, []⟩]))))))) (
  .seq (
  .frz [(4, true)] (
  .reg [⟨.mv (.v 4), none, none, []⟩,
    ⟨.mv (.v 4), none, none, []⟩,
    ⟨.call 38 [(.l 1)] [(3, 1)] true, none, none, []⟩,
    ⟨.mv (.v 0), none, none, []⟩,
    ⟨.callv (.c (.fn (.func 46) [] [])) [(.l 2), (.l 3), (.c (.fn (.func 47) [] []))], none, none, []⟩,
    ⟨.mv (.l 0), some 2, none, []⟩,
    ⟨.mv (.l 4), some 3, none, []⟩])) (
  .ret)))))))⟩

def X45 : XFn :=
 ⟨42, [0, 2, 3, 4, 5, 6, 10, 16], 4, [(1, none)],
  .seq (
  .reg [⟨.mv (.c .nils), some 1, none, []⟩]) (
  .seq (
  .reg [⟨.mv (.c .nils), some 2, none, []⟩]) (
  .mat 2 none 1 1 (
  .seq (
  .reg [⟨.mv (.c (.int .i64 0)), some 3, none, []⟩,
    ⟨.mv (.c (.int .i64 0)), some 4, none, []⟩]) (
  .seq (
  .block 0 (
   .loopS [0, 2, 3, 4] 4 (
    .seq (
    .seq (
    .reg [⟨.mv (.v 4), none, none, []⟩,
      ⟨.mv (.v 0), none, none, []⟩,
      ⟨.len false (.l 1), none, none, []⟩,
      ⟨.bin .lss false (.l 0) (.l 2), some 6, none, []⟩]) (
    .cond (.v 6) (
     .skip) (
     .exit 0))) (
    .block 1 (
     .seq (
     .reg [⟨.mv (.v 0), none, none, []⟩,
       ⟨.mv (.v 4), none, none, []⟩,
       ⟨.slice false 1 (.l 0) (some (.l 1)) none none, none, none, []⟩,
       ⟨.call 48 [(.l 2)] [(0, 0)] true, none, none, []⟩,
       ⟨.mv (.l 3), some 5, none, []⟩]) (
     .seq (
     .seq (
     .reg [⟨.mv (.v 5), none, none, []⟩,
       ⟨.bin .geq false (.l 0) (.c (.int .i64 2)), some 7, none, []⟩]) (
     .cond (.v 7) (
      .seq (
      .reg [⟨.mv (.v 2), none, none, []⟩,
        ⟨.mv (.v 0), none, none, []⟩,
        ⟨.mv (.v 3), none, none, []⟩,
        ⟨.mv (.v 4), none, none, []⟩,
        ⟨.mv (.v 4), none, none, []⟩,
        ⟨.slice false 1 (.l 1) (some (.l 2)) (some (.l 3)) (some (.l 4)), none, none, []⟩,
        ⟨.mkarr 0 1 [.nils] [(0, (.l 5))], none, none, []⟩,
        ⟨.append 1 1 24 1 (.l 0) (.l 6), none, none, []⟩,
        ⟨.mv (.l 7), some 2, none, []⟩]) (
      .reg [⟨.mv (.v 4), none, none, []⟩,
        ⟨.mv (.v 5), none, none, []⟩,
        ⟨.bin .add false (.l 0) (.l 1), none, none, []⟩,
        ⟨.mv (.l 2), some 3, none, []⟩])) (
      .skip))) (
     .reg [⟨.mv (.v 4), none, none, []⟩,
       ⟨.mv (.v 5), none, none, []⟩,
       ⟨.minmax true [(.l 1), (.c (.int .i64 1))], none, none, []⟩,
       ⟨.bin .add false (.l 0) (.l 2), none, none, []⟩,
       ⟨.mv (.l 3), some 4, none, []⟩]))))))) (
  .seq (
  .reg [⟨.mv (.v 2), none, none, []⟩,
    ⟨.mv (.v 0), none, none, []⟩,
    ⟨.mv (.v 3), none, none, []⟩,
    ⟨.mv (.v 0), none, none, []⟩,
    ⟨.len false (.l 3), none, none, []⟩,
    ⟨.mv (.v 0), none, none, []⟩,
    ⟨.len false (.l 5), none, none, []⟩,
    ⟨.slice false 1 (.l 1) (some (.l 2)) (some (.l 4)) (some (.l 6)), none, none, []⟩,
    ⟨.mkarr 2 1 [.nils] [(0, (.l 7))], none, none, []⟩,
    ⟨.append 3 1 24 1 (.l 0) (.l 8), none, none, []⟩,
    ⟨.mv (.l 9), some 1, none, []⟩]) (
  .ret))))))⟩

def X46 : XFn :=
 ⟨32, [0, 1, 2, 6, 7, 8, 9, 14, 15, 16, 17, 18, 30], 4, [(3, none)],
  .seq (
  .reg [⟨.mv (.c (.bool false)), some 3, none, []⟩]) (
  .seq (
  .seq (
  .reg [⟨.mv (.v 0), none, none, []⟩,
    ⟨.len false (.l 0), none, none, []⟩,
    ⟨.mv (.v 1), none, none, []⟩,
    ⟨.len false (.l 2), none, none, []⟩,
    ⟨.bin .neq false (.l 1) (.l 3), some 7, none, []⟩]) (
  .cond (.v 7) (
   .seq (
   .reg [⟨.mv (.c (.bool false)), some 3, none, []⟩]) (
   .ret)) (
   .skip))) (
  .seq (
  .seq (
  .reg [⟨.mv (.v 0), some 8, none, []⟩,
    ⟨.len false (.l 0), some 9, none, []⟩,
    ⟨.mv (.c (.int .i64 0)), some 10, none, []⟩]) (
  .block 0 (
   .loop (
    .seq (
    .reg [⟨.bin .lss false (.v 10) (.v 9), some 11, none, []⟩]) (
    .seq (
    .cond (.v 11) (
     .skip) (
     .exit 0)) (
    .seq (
    .block 1 (
     .seq (
     .reg [⟨.mv (.v 10), none, none, []⟩,
       ⟨.indexAddr 1 (.v 8) (.v 10), none, none, []⟩,
       ⟨.load false 1 (.l 1), none, none, []⟩,
       ⟨.mv (.l 0), some 4, none, []⟩,
       ⟨.mv (.l 2), some 5, none, []⟩]) (
     .seq (
     .reg [⟨.mv (.v 1), none, none, []⟩,
       ⟨.mv (.v 4), none, none, []⟩,
       ⟨.indexAddr 1 (.l 0) (.l 1), none, none, []⟩,
       ⟨.load false 1 (.l 2), none, none, []⟩,
       ⟨.mv (.l 3), some 6, none, []⟩]) (
     .seq (
     .reg [⟨.mv (.v 2), none, none, []⟩,
       ⟨.mv (.v 5), none, none, []⟩,
       ⟨.mv (.v 6), none, none, []⟩,
       ⟨.cally (.l 0) [(.l 1), (.l 2)], none, none, []⟩,
       ⟨.un .not (.l 3), some 12, none, []⟩]) (
     .cond (.v 12) (
      .seq (
      .reg [⟨.mv (.c (.bool false)), some 3, none, []⟩]) (
      .ret)) (
      .skip)))))) (
    .reg [⟨.bin .add false (.v 10) (.c (.int .i64 1)), none, none, []⟩,
      ⟨.mv (.l 0), some 10, none, []⟩]))))))) (
  .seq (
  .reg [⟨.mv (.c (.bool true)), some 3, none, []⟩]) (
  .ret))))⟩

def X47 : XFn :=
 ⟨26, [0, 1, 4, 5, 10, 12, 13, 14, 24], 4, [(2, none)],
  .seq (
  .reg [⟨.mv (.c (.bool false)), some 2, none, []⟩]) (
  .seq (
  .seq (
  .reg [⟨.mv (.v 0), none, none, []⟩,
    ⟨.len false (.l 0), none, none, []⟩,
    ⟨.mv (.v 1), none, none, []⟩,
    ⟨.len false (.l 2), none, none, []⟩,
    ⟨.bin .neq false (.l 1) (.l 3), some 4, none, []⟩]) (
  .cond (.v 4) (
   .seq (
   .reg [⟨.mv (.c (.bool false)), some 2, none, []⟩]) (
   .ret)) (
   .skip))) (
  .seq (
  .seq (
  .reg [⟨.mv (.v 0), none, none, []⟩,
    ⟨.len false (.l 0), some 5, none, []⟩,
    ⟨.mv (.c (.int .i64 0)), some 6, none, []⟩]) (
  .block 0 (
   .loop (
    .seq (
    .reg [⟨.bin .lss false (.v 6) (.v 5), some 7, none, []⟩]) (
    .seq (
    .cond (.v 7) (
     .skip) (
     .exit 0)) (
    .seq (
    .block 1 (
     .seq (
     .reg [⟨.mv (.v 6), none, none, []⟩,
       ⟨.mv (.l 0), some 3, none, []⟩]) (
     .seq (
     .reg [⟨.mv (.v 0), none, none, []⟩,
       ⟨.mv (.v 3), none, none, []⟩,
       ⟨.indexAddr 1 (.l 0) (.l 1), none, none, []⟩,
       ⟨.load false 1 (.l 2), none, none, []⟩,
       ⟨.mv (.v 1), none, none, []⟩,
       ⟨.mv (.v 3), none, none, []⟩,
       ⟨.indexAddr 1 (.l 4) (.l 5), none, none, []⟩,
       ⟨.load false 1 (.l 6), none, none, []⟩,
       ⟨.bin .neq false (.l 3) (.l 7), some 8, none, []⟩]) (
     .cond (.v 8) (
      .seq (
      .reg [⟨.mv (.c (.bool false)), some 2, none, []⟩]) (
      .ret)) (
      .skip))))) (
    .reg [⟨.bin .add false (.v 6) (.c (.int .i64 1)), none, none, []⟩,
      ⟨.mv (.l 0), some 6, none, []⟩]))))))) (
  .seq (
  .reg [⟨.mv (.c (.bool true)), some 2, none, []⟩]) (
  .ret))))⟩

theorem c13 : compFn Try.prog 13 = some { X13 with body := strip X13.body } := by kernel_rfl
theorem c26 : compFn Try.prog 26 = some { X26 with body := strip X26.body } := by kernel_rfl
theorem c45 : compFn Try.prog 45 = some { X45 with body := strip X45.body } := by kernel_rfl
theorem c46 : compFnAt Try.prog 46 4 = some X46 := by kernel_rfl
theorem c47 : compFnAt Try.prog 47 4 = some X47 := by kernel_rfl
end Go.Proofs.Ytfpkcjjgooigbaa.C
