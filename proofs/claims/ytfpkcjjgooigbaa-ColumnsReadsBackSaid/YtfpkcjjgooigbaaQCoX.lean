/-
  Chapter 20: the program's functions, as the machine takes them (printed).
-/
import Derived.Test.YtfpkcjjgooigbaaProg
import Derived.KernelRfl
import Derived.Test.YtfpkcjjgooigbaaMg4
namespace Go.Proofs.Ytfpkcjjgooigbaa.C
set_option linter.unusedSimpArgs false
set_option linter.unusedVariables false
set_option linter.unusedSectionVars false
open Go.Proofs.Ytfpkcjjgooigbaa.Am
def X37 : XFn :=
 ⟨19, [0, 2, 3, 4, 5, 7, 8, 9], 2, [(1, some (true, 4))],
  .seq (
  .reg [⟨.allocA 0 [(.int .i64 0), (.int .i64 0), (.int .i64 0), (.int .i64 0)], some 1, none, []⟩]) (
  .seq (
  .reg [⟨.allocA 1 [(.int .i64 0), (.int .i64 0), (.int .i64 0), (.int .i64 0)], some 2, none, []⟩]) (
  .seq (
  .seq (
  .reg [⟨.mv (.v 0), none, none, []⟩,
    ⟨.callv (.c (.fn (.func 34) [] [])) [(.l 0)], some 5, none, []⟩]) (
  .block 0 (
   .rfor (.v 5) [(some 6), (some 7)] (
    .seq (
    .reg [⟨.mv (.v 6), some 3, none, []⟩]) (
    .reg [⟨.mv (.v 7), some 4, none, []⟩])) (
    .block 1 (
     .reg [⟨.mv (.v 3), none, none, []⟩,
       ⟨.mv (.v 3), none, none, []⟩,
       ⟨.indexAddrA 4 1 (.v 2) (.l 1), none, none, []⟩,
       ⟨.load false 1 (.l 2), none, none, []⟩,
       ⟨.mv (.v 4), none, none, []⟩,
       ⟨.len false (.l 4), none, none, []⟩,
       ⟨.minmax true [(.l 3), (.l 5)], none, none, []⟩,
       ⟨.indexAddrA 4 1 (.v 2) (.l 0), none, none, []⟩,
       ⟨.store 1 (.l 7) (.l 6), none, none, []⟩]))))) (
  .seq (
  .reg [⟨.loadA 4 (.v 2), none, none, []⟩,
    ⟨.storeA 4 (.v 1) (.l 0), none, none, []⟩]) (
  .ret))))⟩

def X36 : XFn :=
 ⟨29, [0, 2, 3, 4, 5, 7, 18, 19, 20, 21], 1, [(1, none)],
  .seq (
  .reg [⟨.mv (.c (.int .i64 0)), some 1, none, []⟩]) (
  .seq (
  .reg [⟨.mv (.v 0), none, none, []⟩,
    ⟨.call 37 [(.l 0)] [(0, 0), (0, 0), (0, 0), (0, 0)] true, none, none, []⟩,
    ⟨.allocA 0 [(.int .i64 0), (.int .i64 0), (.int .i64 0), (.int .i64 0)], some 2, none, []⟩,
    ⟨.storeA 4 (.l 2) (.l 1), none, none, []⟩]) (
  .seq (
  .reg [⟨.mv (.v 0), none, none, []⟩,
    ⟨.indexAddr 1 (.l 0) (.c (.int .i64 0)), none, none, []⟩,
    ⟨.load false 1 (.l 1), none, none, []⟩,
    ⟨.len false (.l 2), none, none, []⟩,
    ⟨.bin .sub false (.l 3) (.c (.int .i64 1)), none, none, []⟩,
    ⟨.mv (.l 4), some 3, none, []⟩]) (
  .seq (
  .reg [⟨.mv (.v 3), none, none, []⟩,
    ⟨.bin .mul false (.c (.int .i64 2)) (.l 0), none, none, []⟩,
    ⟨.mv (.l 1), some 4, none, []⟩]) (
  .seq (
  .seq (
  .reg [⟨.mv (.v 3), none, none, []⟩,
    ⟨.sliceA 4 (.v 2) none (some (.l 0)), some 6, none, []⟩,
    ⟨.len false (.l 1), some 7, none, []⟩,
    ⟨.mv (.c (.int .i64 0)), some 8, none, []⟩]) (
  .block 0 (
   .loopS [4, 6, 7, 8] 1 (
    .seq (
    .reg [⟨.bin .lss false (.v 8) (.v 7), some 9, none, []⟩]) (
    .seq (
    .cond (.v 9) (
     .skip) (
     .exit 0)) (
    .seq (
    .block 1 (
     .seq (
     .reg [⟨.indexAddr 1 (.v 6) (.v 8), none, none, []⟩,
       ⟨.load false 1 (.l 0), none, none, []⟩,
       ⟨.mv (.l 1), some 5, none, []⟩]) (
     .reg [⟨.mv (.v 4), none, none, []⟩,
       ⟨.mv (.v 5), none, none, []⟩,
       ⟨.bin .add false (.l 0) (.l 1), none, none, []⟩,
       ⟨.mv (.l 2), some 4, none, []⟩]))) (
    .reg [⟨.bin .add false (.v 8) (.c (.int .i64 1)), none, none, []⟩,
      ⟨.mv (.l 0), some 8, none, []⟩]))))))) (
  .seq (
  .reg [⟨.mv (.v 4), none, none, []⟩,
    ⟨.mv (.l 0), some 1, none, []⟩]) (
  .ret))))))⟩

def X38 : XFn :=
 ⟨49, [0, 2, 3, 4, 6, 7, 8, 9, 12, 13, 14, 15, 18, 19, 20, 21, 32], 5, [(1, none)],
  .seq (
  .reg [⟨.mv (.c .nils), some 1, none, []⟩]) (
  .seq (
  .reg [⟨.mv (.v 0), none, none, []⟩,
    ⟨.call 37 [(.l 0)] [(0, 0), (0, 0), (0, 0), (0, 0)] true, none, none, []⟩,
    ⟨.allocA 0 [(.int .i64 0), (.int .i64 0), (.int .i64 0), (.int .i64 0)], some 2, none, []⟩,
    ⟨.storeA 4 (.l 2) (.l 1), none, none, []⟩]) (
  .seq (
  .reg [⟨.mv (.c .nils), some 3, none, []⟩]) (
  .mat 3 none 4 1 (
  .seq (
  .seq (
  .reg [⟨.mv (.v 0), some 8, none, []⟩,
    ⟨.len false (.l 0), some 9, none, []⟩,
    ⟨.mv (.c (.int .i64 0)), some 10, none, []⟩]) (
  .block 0 (
   .loopS [2, 3, 8, 9, 10] 5 (
    .seq (
    .reg [⟨.bin .lss false (.v 10) (.v 9), some 11, none, []⟩]) (
    .seq (
    .cond (.v 11) (
     .skip) (
     .exit 0)) (
    .seq (
    .block 1 (
     .seq (
     .reg [⟨.indexAddr 1 (.v 8) (.v 10), none, none, []⟩,
       ⟨.load false 1 (.l 0), none, none, []⟩,
       ⟨.mv (.l 1), some 4, none, []⟩]) (
     .seq (
     .reg [⟨.mv (.c .nils), some 5, none, []⟩]) (
  .mat 5 none 1 1 (
     .seq (
     .seq (
     .reg [⟨.mv (.v 4), some 12, none, []⟩,
       ⟨.len false (.l 0), some 13, none, []⟩,
       ⟨.mv (.c (.int .i64 0)), some 14, none, []⟩]) (
     .block 2 (
      .loopS [2, 3, 4, 5, 8, 9, 10, 12, 13, 14] 5 (
       .seq (
       .reg [⟨.bin .lss false (.v 14) (.v 13), some 15, none, []⟩]) (
       .seq (
       .cond (.v 15) (
        .skip) (
        .exit 2)) (
       .seq (
       .block 3 (
        .seq (
        .reg [⟨.mv (.v 14), none, none, []⟩,
          ⟨.indexAddr 1 (.v 12) (.v 14), none, none, []⟩,
          ⟨.load false 1 (.l 1), none, none, []⟩,
          ⟨.mv (.l 0), some 6, none, []⟩,
          ⟨.mv (.l 2), some 7, none, []⟩]) (
        .seq (
        .reg [⟨.mv (.v 5), none, none, []⟩,
          ⟨.mv (.v 7), none, none, []⟩,
          ⟨.append 1 1 1 0 (.l 0) (.l 1), none, none, []⟩,
          ⟨.mv (.l 2), some 5, none, []⟩]) (
        .seq (
        .reg [⟨.mv (.v 6), none, none, []⟩,
          ⟨.mv (.v 4), none, none, []⟩,
          ⟨.len false (.l 1), none, none, []⟩,
          ⟨.bin .sub false (.l 2) (.c (.int .i64 1)), none, none, []⟩,
          ⟨.bin .lss false (.l 0) (.l 3), some 16, none, []⟩]) (
        .cond (.v 16) (
         .reg [⟨.mv (.v 5), none, none, []⟩,
           ⟨.mv (.v 6), none, none, []⟩,
           ⟨.indexAddrA 4 1 (.v 2) (.l 1), none, none, []⟩,
           ⟨.load false 1 (.l 2), none, none, []⟩,
           ⟨.bin .add false (.l 3) (.c (.int .i64 2)), none, none, []⟩,
           ⟨.mv (.v 7), none, none, []⟩,
           ⟨.len false (.l 5), none, none, []⟩,
           ⟨.bin .sub false (.l 4) (.l 6), none, none, []⟩,
           ⟨.append 2 1 1 4 (.l 0) (.l 7), none, none, []⟩,
           ⟨.mv (.l 8), some 5, none, []⟩]) (
         .skip)))))) (
       .reg [⟨.bin .add false (.v 14) (.c (.int .i64 1)), none, none, []⟩,
         ⟨.mv (.l 0), some 14, none, []⟩]))))))) (
     .reg [⟨.mv (.v 3), none, none, []⟩,
       ⟨.mv (.v 5), none, none, []⟩,
       ⟨.mkarr 3 1 [.nils] [(0, (.l 1))], none, none, []⟩,
       ⟨.append 4 1 24 1 (.l 0) (.l 2), none, none, []⟩,
       ⟨.mv (.l 3), some 3, none, []⟩])))))) (
    .reg [⟨.bin .add false (.v 10) (.c (.int .i64 1)), none, none, []⟩,
      ⟨.mv (.l 0), some 10, none, []⟩]))))))) (
  .seq (
  .reg [⟨.mv (.v 3), none, none, []⟩,
    ⟨.mv (.l 0), some 1, none, []⟩]) (
  .ret))))))⟩

def X39 : XFn :=
 ⟨19, [0, 2, 3, 4, 5, 7, 8, 9], 5, [(1, none)],
  .seq (
  .reg [⟨.mv (.c .nils), some 1, none, []⟩]) (
  .seq (
  .reg [⟨.alloc 0 [.nils], some 2, none, []⟩]) (
  .mat 2 (some 0) 4 1 (
  .seq (
  .seq (
  .reg [⟨.mv (.v 0), none, none, []⟩,
    ⟨.callv (.c (.fn (.func 34) [] [])) [(.l 0)], some 5, none, []⟩]) (
  .block 0 (
   .rfor (.v 5) [(some 6), (some 7)] (
    .seq (
    .reg [⟨.mv (.v 6), some 3, none, []⟩]) (
    .reg [⟨.mv (.v 7), some 4, none, []⟩])) (
    .block 1 (
     .reg [⟨.loadV false 1 (.v 2), none, none, [1, 1, 3]⟩,
       ⟨.mv (.v 3), none, none, []⟩,
       ⟨.bin .mul false (.c (.int .i64 2)) (.l 1), none, none, []⟩,
       ⟨.makeSlice 1 1 1 (.int .u8 0) (.l 2) (.l 2), none, none, []⟩,
       ⟨.mv (.v 4), none, none, [1]⟩,
       ⟨.append 1 1 1 2 (.l 3) (.l 4), none, none, []⟩,
       ⟨.mkarr 3 1 [.nils] [(0, (.l 5))], none, none, []⟩,
       ⟨.append 4 1 24 1 (.l 0) (.l 6), none, none, []⟩,
       ⟨.store 1 (.v 2) (.l 7), none, none, []⟩]))))) (
  .seq (
  .reg [⟨.load false 1 (.v 2), none, none, []⟩,
    ⟨.mv (.l 0), some 1, none, []⟩]) (
  .ret)))))⟩

def X18 : XFn :=
 ⟨78, [0, 1, 3, 4, 5, 6, 8, 10, 11, 12, 13, 14, 15, 17, 23, 26, 28, 30, 37, 50, 57, 60, 61, 62, 73], 9, [(3, some (false, 1)), (4, some (false, 1)), (5, some (false, 1))],
  .seq (
  .reg [⟨.box 0 (.v 1), some 2, none, []⟩,
    ⟨.alloc 1 [.nils], some 3, none, []⟩,
    ⟨.alloc 2 [(.int .i64 0)], some 4, none, []⟩,
    ⟨.alloc 3 [(.int .i64 0)], some 5, none, []⟩]) (
  .seq (
  .seq (
  .reg [⟨.load false 1 (.v 2), none, none, []⟩,
    ⟨.bin .lss false (.l 0) (.c (.int .i64 24)), none, none, []⟩,
    ⟨.mv (.l 1), none, none, []⟩,
    ⟨.load false 1 (.v 2), none, some ((.l 2), false), []⟩,
    ⟨.bin .gtr false (.l 3) (.c (.int .i64 60)), none, some ((.l 2), false), []⟩,
    ⟨.pick (.l 2) (.c (.bool true)) (.l 4), some 14, none, []⟩]) (
  .cond (.v 14) (
   .seq (
   .reg [⟨.store 1 (.v 3) (.c .nils), none, none, []⟩,
     ⟨.store 1 (.v 4) (.c (.int .i64 0)), none, none, []⟩,
     ⟨.store 1 (.v 5) (.c (.int .i64 1)), none, none, []⟩]) (
   .ret)) (
   .skip))) (
  .seq (
  .seq (
  .reg [⟨.mv (.v 0), none, none, []⟩,
    ⟨.call 33 [(.l 0)] [(0, 0)] true, none, none, []⟩,
    ⟨.un .not (.l 1), some 15, none, []⟩]) (
  .cond (.v 15) (
   .seq (
   .reg [⟨.store 1 (.v 3) (.c .nils), none, none, []⟩,
     ⟨.store 1 (.v 4) (.c (.int .i64 0)), none, none, []⟩,
     ⟨.store 1 (.v 5) (.c (.int .i64 200)), none, none, []⟩]) (
   .ret)) (
   .skip))) (
  .seq (
  .seq (
  .reg [⟨.mv (.v 0), none, none, []⟩,
    ⟨.callv (.c (.fn (.func 34) [] [])) [(.l 0)], some 16, none, []⟩]) (
  .block 0 (
   .rfor (.v 16) [none, (some 17)] (
    .reg [⟨.mv (.v 17), some 6, none, []⟩]) (
    .block 1 (
     .seq (
     .reg [⟨.mv (.v 6), none, none, []⟩,
       ⟨.call 35 [(.l 0)] [(0, 0), (0, 0)] true, none, none, []⟩,
       ⟨.mv (.l 1), none, none, []⟩,
       ⟨.extract (.l 2) 0, none, none, []⟩,
       ⟨.extract (.l 2) 1, none, none, []⟩,
       ⟨.mv (.l 3), none, none, []⟩,
       ⟨.mv (.l 4), some 7, none, []⟩]) (
     .seq (
     .reg [⟨.mv (.v 7), none, none, []⟩,
       ⟨.un .not (.l 0), some 18, none, []⟩]) (
     .cond (.v 18) (
      .seq (
      .reg [⟨.store 1 (.v 3) (.c .nils), none, none, []⟩,
        ⟨.store 1 (.v 4) (.c (.int .i64 0)), none, none, []⟩,
        ⟨.store 1 (.v 5) (.c (.int .i64 180)), none, none, []⟩]) (
      .ret)) (
      .skip)))))))) (
  .seq (
  .seq (
  .reg [⟨.mv (.v 0), none, none, []⟩,
    ⟨.call 36 [(.l 0)] [(0, 0)] false, none, none, []⟩,
    ⟨.mv (.v 0), none, none, []⟩,
    ⟨.call 37 [(.l 2)] [(0, 0), (0, 0), (0, 0), (0, 0)] false, none, none, []⟩,
    ⟨.mv (.v 0), none, none, []⟩,
    ⟨.indexAddr 1 (.l 4) (.c (.int .i64 0)), none, none, []⟩,
    ⟨.load false 1 (.l 5), none, none, []⟩,
    ⟨.len false (.l 6), none, none, []⟩,
    ⟨.bin .sub false (.l 7) (.c (.int .i64 1)), none, none, []⟩,
    ⟨.indexA false 4 1 (.l 3) (.l 8), none, none, []⟩,
    ⟨.bin .add false (.l 1) (.l 9), none, none, []⟩,
    ⟨.load false 1 (.v 2), none, none, []⟩,
    ⟨.bin .leq false (.l 10) (.l 11), some 19, none, []⟩]) (
  .cond (.v 19) (
   .seq (
   .reg [⟨.mv (.v 0), none, none, []⟩,
     ⟨.call 38 [(.l 0)] [(4, 1)] true, none, none, []⟩,
     ⟨.store 1 (.v 3) (.l 1), none, none, []⟩,
     ⟨.store 1 (.v 4) (.c (.int .i64 1)), none, none, []⟩,
     ⟨.store 1 (.v 5) (.c (.int .i64 0)), none, none, []⟩]) (
   .ret)) (
   .skip))) (
  .seq (
  .seq (
  .reg [⟨.mv (.v 0), none, none, []⟩,
    ⟨.call 39 [(.l 0)] [(5, 1)] true, none, none, []⟩,
    ⟨.mv (.l 1), some 8, none, []⟩]) (
  .seq (
  .reg [⟨.mv (.v 8), none, none, []⟩,
    ⟨.load false 1 (.v 2), none, none, []⟩,
    ⟨.call 40 [(.l 0), (.l 1)] [(0, 0)] true, some 20, none, []⟩]) (
  .cond (.v 20) (
   .seq (
   .reg [⟨.mv (.v 8), none, none, []⟩,
     ⟨.store 1 (.v 3) (.l 0), none, none, []⟩,
     ⟨.store 1 (.v 4) (.c (.int .i64 2)), none, none, []⟩,
     ⟨.store 1 (.v 5) (.c (.int .i64 0)), none, none, []⟩]) (
   .ret)) (
   .skip)))) (
  .seq (
  .reg [⟨.alloc 6 [.nils], some 9, none, []⟩]) (
  .mat 9 (some 0) 8 1 (
  .seq (
  .seq (
  .reg [⟨.mv (.v 0), none, none, []⟩,
    ⟨.callv (.c (.fn (.func 34) [] [])) [(.l 0)], some 21, none, []⟩]) (
  .block 2 (
   .rfor (.v 21) [(some 22), (some 23)] (
    .seq (
    .reg [⟨.mv (.v 22), some 10, none, []⟩]) (
    .reg [⟨.mv (.v 23), some 11, none, []⟩])) (
    .block 3 (
     .seq (
     .reg [⟨.mv (.v 11), none, none, []⟩,
       ⟨.load false 1 (.v 2), none, none, []⟩,
       ⟨.mv (.v 10), none, none, []⟩,
       ⟨.call 42 [(.l 2)] [(0, 0), (0, 0)] false, none, none, []⟩,
       ⟨.call 41 [(.l 0), (.l 1), (.l 3)] [(7, 1), (0, 0), (0, 0)] false, none, none, []⟩,
       ⟨.mv (.l 4), none, none, []⟩,
       ⟨.extract (.l 5) 0, none, none, []⟩,
       ⟨.extract (.l 5) 1, none, none, []⟩,
       ⟨.extract (.l 5) 2, none, none, []⟩,
       ⟨.mv (.l 6), some 12, none, []⟩,
       ⟨.mv (.l 7), none, none, []⟩,
       ⟨.mv (.l 8), some 13, none, []⟩]) (
     .seq (
     .seq (
     .reg [⟨.mv (.v 13), none, none, []⟩,
       ⟨.bin .neq false (.l 0) (.c (.int .i64 0)), some 24, none, []⟩]) (
     .cond (.v 24) (
      .seq (
      .reg [⟨.store 1 (.v 3) (.c .nils), none, none, []⟩,
        ⟨.store 1 (.v 4) (.c (.int .i64 0)), none, none, []⟩,
        ⟨.store 1 (.v 5) (.c (.int .i64 181)), none, none, []⟩]) (
      .ret)) (
      .skip))) (
     .reg [⟨.load false 1 (.v 9), none, none, []⟩,
       ⟨.mv (.v 12), none, none, []⟩,
       ⟨.append 8 1 24 0 (.l 0) (.l 1), none, none, []⟩,
       ⟨.store 1 (.v 9) (.l 2), none, none, []⟩]))))))) (
  .seq (
  .reg [⟨.load false 1 (.v 9), none, none, []⟩,
    ⟨.store 1 (.v 3) (.l 0), none, none, []⟩,
    ⟨.store 1 (.v 4) (.c (.int .i64 3)), none, none, []⟩,
    ⟨.store 1 (.v 5) (.c (.int .i64 0)), none, none, []⟩]) (
  .ret))))))))))⟩

def X34 : XFn :=
 ⟨4, [0, 1, 2], 13, [(2, none)],
  .seq (
  .reg [⟨.box 12 (.v 0), some 1, none, []⟩,
    ⟨.mv (.c (.lit .nilFunc)), some 2, none, []⟩]) (
  .seq (
  .reg [⟨.mkfn (.func 51) [] [(.v 1)], none, none, []⟩,
    ⟨.mv (.l 0), some 2, none, []⟩]) (
  .ret))⟩

def X51 : XFn :=
 ⟨27, [0, 1, 4, 5, 6, 7, 8, 9, 10, 13, 14, 15, 16, 24], 13, [],
  .seq (
  .reg [⟨.load false 1 (.v 1), some 5, none, []⟩,
    ⟨.len false (.l 0), some 6, none, []⟩,
    ⟨.mv (.c (.int .i64 0)), some 7, none, []⟩]) (
  .block 0 (
   .loop (
    .seq (
    .reg [⟨.bin .lss false (.v 7) (.v 6), some 8, none, []⟩]) (
    .seq (
    .cond (.v 8) (
     .skip) (
     .exit 0)) (
    .seq (
    .block 1 (
     .seq (
     .reg [⟨.indexAddr 1 (.v 5) (.v 7), none, none, []⟩,
       ⟨.load false 1 (.l 0), none, none, []⟩,
       ⟨.mv (.l 1), some 2, none, []⟩]) (
     .seq (
     .reg [⟨.mv (.v 2), some 9, none, []⟩,
       ⟨.len false (.l 0), some 10, none, []⟩,
       ⟨.mv (.c (.int .i64 0)), some 11, none, []⟩]) (
     .block 2 (
      .loop (
       .seq (
       .reg [⟨.bin .lss false (.v 11) (.v 10), some 12, none, []⟩]) (
       .seq (
       .cond (.v 12) (
        .skip) (
        .exit 2)) (
       .seq (
       .block 3 (
        .seq (
        .reg [⟨.mv (.v 11), none, none, []⟩,
          ⟨.indexAddr 1 (.v 9) (.v 11), none, none, []⟩,
          ⟨.load false 1 (.l 1), none, none, []⟩,
          ⟨.mv (.l 0), some 3, none, []⟩,
          ⟨.mv (.l 2), some 4, none, []⟩]) (
        .seq (
        .reg [⟨.mv (.v 0), none, none, []⟩,
          ⟨.mv (.v 3), none, none, []⟩,
          ⟨.mv (.v 4), none, none, []⟩,
          ⟨.cally (.l 0) [(.l 1), (.l 2)], none, none, []⟩,
          ⟨.un .not (.l 3), some 13, none, []⟩]) (
        .cond (.v 13) (
         .ret) (
         .skip))))) (
       .reg [⟨.bin .add false (.v 11) (.c (.int .i64 1)), none, none, []⟩,
         ⟨.mv (.l 0), some 11, none, []⟩]))))))))) (
    .reg [⟨.bin .add false (.v 7) (.c (.int .i64 1)), none, none, []⟩,
      ⟨.mv (.l 0), some 7, none, []⟩]))))))⟩

theorem c37 : compFn Try.prog 37 = some { X37 with body := strip X37.body } := by kernel_rfl
theorem c36 : compFn Try.prog 36 = some { X36 with body := strip X36.body } := by kernel_rfl
theorem c38 : compFn Try.prog 38 = some { X38 with body := strip X38.body } := by kernel_rfl
theorem c39 : compFn Try.prog 39 = some { X39 with body := strip X39.body } := by kernel_rfl
theorem c18 : compFn Try.prog 18 = some { X18 with body := strip X18.body } := by kernel_rfl
theorem c34 : compFnAt Try.prog 34 12 = some X34 := by kernel_rfl
theorem c51 : compFnAt Try.prog 51 13 = some X51 := by kernel_rfl
end Go.Proofs.Ytfpkcjjgooigbaa.C
