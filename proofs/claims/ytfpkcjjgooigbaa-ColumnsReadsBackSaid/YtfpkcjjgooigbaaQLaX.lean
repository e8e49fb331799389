/-
  Chapter 18's functions, as the machine takes them (printed).
-/
import Derived.Test.YtfpkcjjgooigbaaProg
import Derived.KernelRfl
import Derived.Test.YtfpkcjjgooigbaaMg4
namespace Go.Proofs.Ytfpkcjjgooigbaa.L
set_option linter.unusedSimpArgs false
set_option linter.unusedVariables false
set_option linter.unusedSectionVars false
open Go.Proofs.Ytfpkcjjgooigbaa.Am
theorem mixed : Try.prog.follows .mixedOrders = true := by kernel_rfl
def X35 : XFn :=
 ⟨49, [0, 2, 3, 4, 5, 6, 7, 8, 9, 31, 36, 43], 0, [(1, none), (2, none)],
  .seq (
  .reg [⟨.mv (.c (.int .i64 0)), some 1, none, []⟩,
    ⟨.mv (.c (.bool false)), some 2, none, []⟩]) (
  .seq (
  .seq (
  .reg [⟨.mv (.v 0), some 5, none, []⟩,
    ⟨.len false (.l 0), some 6, none, []⟩,
    ⟨.mv (.c (.int .i64 0)), some 7, none, []⟩]) (
  .block 0 (
   .loopS [0, 5, 6, 7] 0 (
    .seq (
    .reg [⟨.bin .lss false (.v 7) (.v 6), some 8, none, []⟩]) (
    .seq (
    .cond (.v 8) (
     .skip) (
     .exit 0)) (
    .seq (
    .block 1 (
     .seq (
     .reg [⟨.mv (.v 7), none, none, []⟩,
       ⟨.indexAddr 1 (.v 5) (.v 7), none, none, []⟩,
       ⟨.load false 1 (.l 1), none, none, []⟩,
       ⟨.mv (.l 0), some 3, none, []⟩,
       ⟨.mv (.l 2), some 4, none, []⟩]) (
     .seq (
     .reg [⟨.mv (.v 4), none, none, []⟩,
       ⟨.call 52 [(.l 0)] [(0, 0)] true, none, none, []⟩,
       ⟨.un .not (.l 1), none, none, []⟩,
       ⟨.mv (.l 2), none, none, []⟩,
       ⟨.mv (.v 4), none, some ((.l 3), false), []⟩,
       ⟨.bin .eql false (.l 4) (.c (.int .u8 0)), none, some ((.l 3), false), []⟩,
       ⟨.mv (.l 5), none, some ((.l 3), false), []⟩,
       ⟨.mv (.v 3), none, some ((.l 6), true), []⟩,
       ⟨.bin .eql false (.l 7) (.c (.int .i64 0)), none, some ((.l 6), true), []⟩,
       ⟨.mv (.l 8), none, some ((.l 6), true), []⟩,
       ⟨.mv (.v 0), none, some ((.l 9), false), []⟩,
       ⟨.mv (.v 3), none, some ((.l 9), false), []⟩,
       ⟨.bin .sub false (.l 11) (.c (.int .i64 1)), none, some ((.l 9), false), []⟩,
       ⟨.indexAddr 1 (.l 10) (.l 12), none, some ((.l 9), false), []⟩,
       ⟨.load false 1 (.l 13), none, some ((.l 9), false), []⟩,
       ⟨.bin .eql false (.l 14) (.c (.int .u8 0)), none, some ((.l 9), false), []⟩,
       ⟨.pick (.l 9) (.c (.bool true)) (.l 15), none, some ((.l 6), true), []⟩,
       ⟨.pick (.l 6) (.l 16) (.c (.bool false)), none, some ((.l 3), false), []⟩,
       ⟨.pick (.l 3) (.c (.bool true)) (.l 17), some 9, none, []⟩]) (
     .cond (.v 9) (
      .seq (
      .reg [⟨.mv (.v 3), none, none, []⟩,
        ⟨.mv (.l 0), some 1, none, []⟩,
        ⟨.mv (.c (.bool false)), some 2, none, []⟩]) (
      .ret)) (
      .skip))))) (
    .reg [⟨.bin .add false (.v 7) (.c (.int .i64 1)), none, none, []⟩,
      ⟨.mv (.l 0), some 7, none, []⟩]))))))) (
  .seq (
  .seq (
  .reg [⟨.mv (.v 0), none, none, []⟩,
    ⟨.len false (.l 0), none, none, []⟩,
    ⟨.bin .eql false (.l 1) (.c (.int .i64 0)), some 10, none, []⟩]) (
  .cond (.v 10) (
   .seq (
   .reg [⟨.mv (.c (.int .i64 0)), some 1, none, []⟩,
     ⟨.mv (.c (.bool false)), some 2, none, []⟩]) (
   .ret)) (
   .skip))) (
  .seq (
  .seq (
  .reg [⟨.mv (.v 0), none, none, []⟩,
    ⟨.mv (.v 0), none, none, []⟩,
    ⟨.len false (.l 1), none, none, []⟩,
    ⟨.bin .sub false (.l 2) (.c (.int .i64 1)), none, none, []⟩,
    ⟨.indexAddr 1 (.l 0) (.l 3), none, none, []⟩,
    ⟨.load false 1 (.l 4), none, none, []⟩,
    ⟨.bin .eql false (.l 5) (.c (.int .u8 0)), some 11, none, []⟩]) (
  .cond (.v 11) (
   .seq (
   .reg [⟨.mv (.v 0), none, none, []⟩,
     ⟨.len false (.l 0), none, none, []⟩,
     ⟨.bin .sub false (.l 1) (.c (.int .i64 1)), none, none, []⟩,
     ⟨.mv (.l 2), some 1, none, []⟩,
     ⟨.mv (.c (.bool false)), some 2, none, []⟩]) (
   .ret)) (
   .skip))) (
  .seq (
  .reg [⟨.mv (.v 0), none, none, []⟩,
    ⟨.len false (.l 0), none, none, []⟩,
    ⟨.mv (.l 1), some 1, none, []⟩,
    ⟨.mv (.c (.bool true)), some 2, none, []⟩]) (
  .ret)))))⟩

def X57 : XFn :=
 ⟨51, [0, 2, 3, 4, 8, 34, 38, 45], 0, [(1, none), (2, none)],
  .seq (
  .reg [⟨.mv (.c (.int .i64 0)), some 1, none, []⟩,
    ⟨.mv (.c (.bool false)), some 2, none, []⟩]) (
  .seq (
  .seq (
  .reg [⟨.mv (.c (.int .i64 0)), some 3, none, []⟩]) (
  .block 0 (
   .loopS [0, 3] 0 (
    .seq (
    .seq (
    .reg [⟨.mv (.v 3), none, none, []⟩,
      ⟨.mv (.v 0), none, none, []⟩,
      ⟨.len false (.l 1), none, none, []⟩,
      ⟨.bin .lss false (.l 0) (.l 2), some 4, none, []⟩]) (
    .cond (.v 4) (
     .skip) (
     .exit 0))) (
    .seq (
    .block 1 (
     .seq (
     .reg [⟨.mv (.v 0), none, none, []⟩,
       ⟨.mv (.v 3), none, none, []⟩,
       ⟨.indexAddr 1 (.l 0) (.l 1), none, none, []⟩,
       ⟨.load false 1 (.l 2), none, none, []⟩,
       ⟨.bin .gtr false (.l 3) (.c (.int .u8 63)), none, none, []⟩,
       ⟨.mv (.l 4), none, none, []⟩,
       ⟨.mv (.v 0), none, some ((.l 5), false), []⟩,
       ⟨.mv (.v 3), none, some ((.l 5), false), []⟩,
       ⟨.indexAddr 1 (.l 6) (.l 7), none, some ((.l 5), false), []⟩,
       ⟨.load false 1 (.l 8), none, some ((.l 5), false), []⟩,
       ⟨.bin .eql false (.l 9) (.c (.int .u8 0)), none, some ((.l 5), false), []⟩,
       ⟨.mv (.l 10), none, some ((.l 5), false), []⟩,
       ⟨.mv (.v 3), none, some ((.l 11), true), []⟩,
       ⟨.bin .eql false (.l 12) (.c (.int .i64 0)), none, some ((.l 11), true), []⟩,
       ⟨.mv (.l 13), none, some ((.l 11), true), []⟩,
       ⟨.mv (.v 0), none, some ((.l 14), false), []⟩,
       ⟨.mv (.v 3), none, some ((.l 14), false), []⟩,
       ⟨.bin .sub false (.l 16) (.c (.int .i64 1)), none, some ((.l 14), false), []⟩,
       ⟨.indexAddr 1 (.l 15) (.l 17), none, some ((.l 14), false), []⟩,
       ⟨.load false 1 (.l 18), none, some ((.l 14), false), []⟩,
       ⟨.bin .eql false (.l 19) (.c (.int .u8 0)), none, some ((.l 14), false), []⟩,
       ⟨.pick (.l 14) (.c (.bool true)) (.l 20), none, some ((.l 11), true), []⟩,
       ⟨.pick (.l 11) (.l 21) (.c (.bool false)), none, some ((.l 5), false), []⟩,
       ⟨.pick (.l 5) (.c (.bool true)) (.l 22), some 5, none, []⟩]) (
     .cond (.v 5) (
      .seq (
      .reg [⟨.mv (.v 3), none, none, []⟩,
        ⟨.mv (.l 0), some 1, none, []⟩,
        ⟨.mv (.c (.bool false)), some 2, none, []⟩]) (
      .ret)) (
      .skip)))) (
    .reg [⟨.mv (.v 3), none, none, []⟩,
      ⟨.bin .add false (.l 0) (.c (.int .i64 1)), none, none, []⟩,
      ⟨.mv (.l 1), some 3, none, []⟩])))))) (
  .seq (
  .seq (
  .reg [⟨.mv (.v 0), none, none, []⟩,
    ⟨.len false (.l 0), none, none, []⟩,
    ⟨.bin .eql false (.l 1) (.c (.int .i64 0)), some 6, none, []⟩]) (
  .cond (.v 6) (
   .seq (
   .reg [⟨.mv (.c (.int .i64 0)), some 1, none, []⟩,
     ⟨.mv (.c (.bool false)), some 2, none, []⟩]) (
   .ret)) (
   .skip))) (
  .seq (
  .seq (
  .reg [⟨.mv (.v 0), none, none, []⟩,
    ⟨.mv (.v 0), none, none, []⟩,
    ⟨.len false (.l 1), none, none, []⟩,
    ⟨.bin .sub false (.l 2) (.c (.int .i64 1)), none, none, []⟩,
    ⟨.indexAddr 1 (.l 0) (.l 3), none, none, []⟩,
    ⟨.load false 1 (.l 4), none, none, []⟩,
    ⟨.bin .eql false (.l 5) (.c (.int .u8 0)), some 7, none, []⟩]) (
  .cond (.v 7) (
   .seq (
   .reg [⟨.mv (.v 0), none, none, []⟩,
     ⟨.len false (.l 0), none, none, []⟩,
     ⟨.bin .sub false (.l 1) (.c (.int .i64 1)), none, none, []⟩,
     ⟨.mv (.l 2), some 1, none, []⟩,
     ⟨.mv (.c (.bool false)), some 2, none, []⟩]) (
   .ret)) (
   .skip))) (
  .seq (
  .reg [⟨.mv (.v 0), none, none, []⟩,
    ⟨.len false (.l 0), none, none, []⟩,
    ⟨.mv (.l 1), some 1, none, []⟩,
    ⟨.mv (.c (.bool true)), some 2, none, []⟩]) (
  .ret)))))⟩

def X48 : XFn :=
 ⟨18, [0, 2, 3, 4, 5, 6, 7, 8, 13], 0, [(1, none)],
  .seq (
  .reg [⟨.mv (.c (.int .i64 0)), some 1, none, []⟩]) (
  .seq (
  .seq (
  .reg [⟨.mv (.v 0), some 4, none, []⟩,
    ⟨.len false (.l 0), some 5, none, []⟩,
    ⟨.mv (.c (.int .i64 0)), some 6, none, []⟩]) (
  .block 0 (
   .loopS [0, 4, 5, 6] 0 (
    .seq (
    .reg [⟨.bin .lss false (.v 6) (.v 5), some 7, none, []⟩]) (
    .seq (
    .cond (.v 7) (
     .skip) (
     .exit 0)) (
    .seq (
    .block 1 (
     .seq (
     .reg [⟨.mv (.v 6), none, none, []⟩,
       ⟨.indexAddr 1 (.v 4) (.v 6), none, none, []⟩,
       ⟨.load false 1 (.l 1), none, none, []⟩,
       ⟨.mv (.l 0), some 2, none, []⟩,
       ⟨.mv (.l 2), some 3, none, []⟩]) (
     .seq (
     .reg [⟨.mv (.v 3), none, none, []⟩,
       ⟨.bin .neq false (.l 0) (.c (.int .u8 0)), some 8, none, []⟩]) (
     .cond (.v 8) (
      .seq (
      .reg [⟨.mv (.v 2), none, none, []⟩,
        ⟨.mv (.l 0), some 1, none, []⟩]) (
      .ret)) (
      .skip))))) (
    .reg [⟨.bin .add false (.v 6) (.c (.int .i64 1)), none, none, []⟩,
      ⟨.mv (.l 0), some 6, none, []⟩]))))))) (
  .seq (
  .reg [⟨.mv (.v 0), none, none, []⟩,
    ⟨.len false (.l 0), none, none, []⟩,
    ⟨.mv (.l 1), some 1, none, []⟩]) (
  .ret)))⟩

def X58 : XFn :=
 ⟨32, [0, 1, 4, 5, 6, 7, 13, 22], 1, [(2, none)],
  .seq (
  .reg [⟨.mv (.c (.int .i64 0)), some 2, none, []⟩]) (
  .seq (
  .reg [⟨.mv (.v 0), none, none, []⟩,
    ⟨.call 59 [(.l 0)] [(0, 1)] true, none, none, []⟩,
    ⟨.mv (.l 1), some 3, none, []⟩,
    ⟨.mv (.c (.int .i64 0)), some 4, none, []⟩]) (
  .seq (
  .seq (
  .reg [⟨.mv (.c (.int .i64 0)), some 5, none, []⟩]) (
  .block 0 (
   .loopS [1, 3, 4, 5] 1 (
    .seq (
    .seq (
    .reg [⟨.mv (.v 5), none, none, []⟩,
      ⟨.mv (.v 3), none, none, []⟩,
      ⟨.len false (.l 1), none, none, []⟩,
      ⟨.bin .lss false (.l 0) (.l 2), some 6, none, []⟩]) (
    .cond (.v 6) (
     .skip) (
     .exit 0))) (
    .seq (
    .block 1 (
     .seq (
     .seq (
     .reg [⟨.mv (.v 3), none, none, []⟩,
       ⟨.mv (.v 5), none, none, []⟩,
       ⟨.indexAddr 1 (.l 0) (.l 1), none, none, []⟩,
       ⟨.load false 1 (.l 2), none, none, []⟩,
       ⟨.len false (.l 3), none, none, []⟩,
       ⟨.mv (.v 1), none, none, []⟩,
       ⟨.bin .gtr false (.l 4) (.l 5), some 7, none, []⟩]) (
     .cond (.v 7) (
      .seq (
      .reg [⟨.mv (.v 4), none, none, []⟩,
        ⟨.mv (.l 0), some 2, none, []⟩]) (
      .ret)) (
      .skip))) (
     .reg [⟨.mv (.v 4), none, none, []⟩,
       ⟨.mv (.v 3), none, none, []⟩,
       ⟨.mv (.v 5), none, none, []⟩,
       ⟨.indexAddr 1 (.l 1) (.l 2), none, none, []⟩,
       ⟨.load false 1 (.l 3), none, none, []⟩,
       ⟨.len false (.l 4), none, none, []⟩,
       ⟨.bin .add false (.l 5) (.c (.int .i64 1)), none, none, []⟩,
       ⟨.bin .add false (.l 0) (.l 6), none, none, []⟩,
       ⟨.mv (.l 7), some 4, none, []⟩]))) (
    .reg [⟨.mv (.v 5), none, none, []⟩,
      ⟨.bin .add false (.l 0) (.c (.int .i64 1)), none, none, []⟩,
      ⟨.mv (.l 1), some 5, none, []⟩])))))) (
  .seq (
  .reg [⟨.mv (.c (.int .i64 (-1))), some 2, none, []⟩]) (
  .ret))))⟩

def X59 : XFn :=
 ⟨35, [0, 2, 3, 4, 5, 11, 18], 9, [(1, none)],
  .seq (
  .reg [⟨.mv (.c .nils), some 1, none, []⟩]) (
  .seq (
  .reg [⟨.mkarr 0 1 [] [], none, none, []⟩,
    ⟨.mkarr 1 1 [] [], none, none, []⟩,
    ⟨.mv (.l 0), some 2, none, []⟩,
    ⟨.mv (.l 1), some 3, none, []⟩]) (
  .seq (
  .seq (
  .reg [⟨.mv (.c (.int .i64 0)), some 4, none, []⟩]) (
  .block 0 (
   .loopS [0, 2, 3, 4] 9 (
    .seq (
    .seq (
    .reg [⟨.mv (.v 4), none, none, []⟩,
      ⟨.mv (.v 0), none, none, []⟩,
      ⟨.len false (.l 1), none, none, []⟩,
      ⟨.bin .lss false (.l 0) (.l 2), some 5, none, []⟩]) (
    .cond (.v 5) (
     .skip) (
     .exit 0))) (
    .seq (
    .block 1 (
     .seq (
     .seq (
     .reg [⟨.mv (.v 0), none, none, []⟩,
       ⟨.mv (.v 4), none, none, []⟩,
       ⟨.indexAddr 1 (.l 0) (.l 1), none, none, []⟩,
       ⟨.load false 1 (.l 2), none, none, []⟩,
       ⟨.bin .eql false (.l 3) (.c (.int .u8 0)), some 6, none, []⟩]) (
     .cond (.v 6) (
      .seq (
      .reg [⟨.mv (.v 2), none, none, []⟩,
        ⟨.mv (.v 3), none, none, []⟩,
        ⟨.mkarr 2 1 [.nils] [(0, (.l 1))], none, none, []⟩,
        ⟨.append 3 1 24 1 (.l 0) (.l 2), none, none, []⟩,
        ⟨.mv (.l 3), some 2, none, []⟩]) (
      .seq (
      .reg [⟨.mkarr 4 1 [] [], none, none, []⟩,
        ⟨.mv (.l 0), some 3, none, []⟩]) (
      .exit 1))) (
      .skip))) (
     .reg [⟨.mv (.v 3), none, none, []⟩,
       ⟨.mv (.v 0), none, none, []⟩,
       ⟨.mv (.v 4), none, none, []⟩,
       ⟨.indexAddr 1 (.l 1) (.l 2), none, none, []⟩,
       ⟨.load false 1 (.l 3), none, none, []⟩,
       ⟨.mkarr 5 1 [(.int .u8 0)] [(0, (.l 4))], none, none, []⟩,
       ⟨.append 6 1 1 1 (.l 0) (.l 5), none, none, []⟩,
       ⟨.mv (.l 6), some 3, none, []⟩]))) (
    .reg [⟨.mv (.v 4), none, none, []⟩,
      ⟨.bin .add false (.l 0) (.c (.int .i64 1)), none, none, []⟩,
      ⟨.mv (.l 1), some 4, none, []⟩])))))) (
  .seq (
  .reg [⟨.mv (.v 2), none, none, []⟩,
    ⟨.mv (.v 3), none, none, []⟩,
    ⟨.mkarr 7 1 [.nils] [(0, (.l 1))], none, none, []⟩,
    ⟨.append 8 1 24 1 (.l 0) (.l 2), none, none, []⟩,
    ⟨.mv (.l 3), some 1, none, []⟩]) (
  .ret))))⟩

def X54 : XFn :=
 ⟨37, [0, 2, 3, 4, 5, 6, 7, 8, 9, 10, 15], 4, [(1, none)],
  .seq (
  .reg [⟨.mv (.c .nils), some 1, none, []⟩]) (
  .seq (
  .reg [⟨.mv (.c .nils), some 2, none, []⟩]) (
  .seq (
  .reg [⟨.mv (.c (.int .i64 0)), some 3, none, []⟩]) (
  .seq (
  .seq (
  .reg [⟨.mv (.v 0), some 6, none, []⟩,
    ⟨.len false (.l 0), some 7, none, []⟩,
    ⟨.mv (.c (.int .i64 0)), some 8, none, []⟩]) (
  .block 0 (
   .loopS [0, 2, 3, 6, 7, 8] 4 (
    .seq (
    .reg [⟨.bin .lss false (.v 8) (.v 7), some 9, none, []⟩]) (
    .seq (
    .cond (.v 9) (
     .skip) (
     .exit 0)) (
    .seq (
    .block 1 (
     .seq (
     .reg [⟨.mv (.v 8), none, none, []⟩,
       ⟨.indexAddr 1 (.v 6) (.v 8), none, none, []⟩,
       ⟨.load false 1 (.l 1), none, none, []⟩,
       ⟨.mv (.l 0), some 4, none, []⟩,
       ⟨.mv (.l 2), some 5, none, []⟩]) (
     .seq (
     .reg [⟨.mv (.v 5), none, none, []⟩,
       ⟨.bin .eql false (.l 0) (.c (.int .u8 0)), some 10, none, []⟩]) (
     .cond (.v 10) (
      .seq (
      .reg [⟨.mv (.v 2), none, none, []⟩,
        ⟨.mv (.v 0), none, none, []⟩,
        ⟨.mv (.v 3), none, none, []⟩,
        ⟨.mv (.v 4), none, none, []⟩,
        ⟨.mv (.v 4), none, none, []⟩,
        ⟨.slice false 1 (.l 1) (some (.l 2)) (some (.l 3)) (some (.l 4)), none, none, []⟩,
        ⟨.mkarr 0 1 [.nils] [(0, (.l 5))], none, none, []⟩,
        ⟨.append 1 1 24 1 (.l 0) (.l 6), none, none, []⟩,
        ⟨.mv (.l 7), some 2, none, []⟩]) (
      .reg [⟨.mv (.v 4), none, none, []⟩,
        ⟨.bin .add false (.l 0) (.c (.int .i64 1)), none, none, []⟩,
        ⟨.mv (.l 1), some 3, none, []⟩])) (
      .skip))))) (
    .reg [⟨.bin .add false (.v 8) (.c (.int .i64 1)), none, none, []⟩,
      ⟨.mv (.l 0), some 8, none, []⟩]))))))) (
  .seq (
  .reg [⟨.mv (.v 2), none, none, []⟩,
    ⟨.mv (.v 0), none, none, []⟩,
    ⟨.mv (.v 3), none, none, []⟩,
    ⟨.mv (.v 0), none, none, []⟩,
    ⟨.len false (.l 3), none, none, []⟩,
    ⟨.mv (.v 0), none, none, []⟩,
    ⟨.len false (.l 5), none, none, []⟩,
    ⟨.slice false 1 (.l 1) (some (.l 2)) (some (.l 4)) (some (.l 6)), none, none, []⟩,
    ⟨.mkarr 2 1 [.nils] [(0, (.l 7))], none, none, []⟩,
    ⟨.append 3 1 24 1 (.l 0) (.l 8), none, none, []⟩,
    ⟨.mv (.l 9), some 1, none, []⟩]) (
  .ret)))))⟩

def X55 : XFn :=
 ⟨5, [0, 2], 1, [(1, none)],
  .seq (
  .reg [⟨.mv (.c .nils), some 1, none, []⟩]) (
  .seq (
  .reg [⟨.mv (.v 0), none, none, []⟩,
    ⟨.makeSlice 0 1 1 (.int .u8 0) (.l 0) (.l 0), none, none, []⟩,
    ⟨.mv (.l 1), some 1, none, []⟩]) (
  .ret))⟩

def X56 : XFn :=
 ⟨21, [0, 1, 2], 1, [(2, none)],
  .seq (
  .reg [⟨.boxA 0 (.v 0), some 1, none, []⟩,
    ⟨.mv (.c (.bool false)), some 2, none, []⟩]) (
  .seq (
  .reg [⟨.indexAddrA 2 1 (.v 1) (.c (.int .i64 0)), none, none, []⟩,
    ⟨.load false 1 (.l 0), none, none, []⟩,
    ⟨.bin .geq false (.l 1) (.c (.int .i64 0)), none, none, []⟩,
    ⟨.mv (.l 2), none, none, []⟩,
    ⟨.indexAddrA 2 1 (.v 1) (.c (.int .i64 0)), none, some ((.l 3), true), []⟩,
    ⟨.load false 1 (.l 4), none, some ((.l 3), true), []⟩,
    ⟨.bin .leq false (.l 5) (.c (.int .i64 16)), none, some ((.l 3), true), []⟩,
    ⟨.pick (.l 3) (.l 6) (.c (.bool false)), none, none, []⟩,
    ⟨.mv (.l 7), none, none, []⟩,
    ⟨.indexAddrA 2 1 (.v 1) (.c (.int .i64 1)), none, some ((.l 8), true), []⟩,
    ⟨.load false 1 (.l 9), none, some ((.l 8), true), []⟩,
    ⟨.bin .geq false (.l 10) (.c (.int .i64 0)), none, some ((.l 8), true), []⟩,
    ⟨.pick (.l 8) (.l 11) (.c (.bool false)), none, none, []⟩,
    ⟨.mv (.l 12), none, none, []⟩,
    ⟨.indexAddrA 2 1 (.v 1) (.c (.int .i64 1)), none, some ((.l 13), true), []⟩,
    ⟨.load false 1 (.l 14), none, some ((.l 13), true), []⟩,
    ⟨.bin .leq false (.l 15) (.c (.int .i64 16)), none, some ((.l 13), true), []⟩,
    ⟨.pick (.l 13) (.l 16) (.c (.bool false)), none, none, []⟩,
    ⟨.mv (.l 17), some 2, none, []⟩]) (
  .ret))⟩

def X53 : XFn :=
 ⟨16, [0, 1, 2, 4, 5, 6, 7, 14], 1, [(2, none)],
  .seq (
  .reg [⟨.boxA 0 (.v 0), some 1, none, []⟩,
    ⟨.mv (.c (.bool false)), some 2, none, []⟩]) (
  .seq (
  .seq (
  .reg [⟨.loadA 2 (.v 1), some 4, none, []⟩,
    ⟨.mv (.c (.int .i64 0)), some 5, none, []⟩]) (
  .block 0 (
   .loopS [4, 5] 1 (
    .seq (
    .reg [⟨.bin .lss false (.v 5) (.c (.int .i64 2)), some 6, none, []⟩]) (
    .seq (
    .cond (.v 6) (
     .skip) (
     .exit 0)) (
    .seq (
    .block 1 (
     .seq (
     .reg [⟨.indexA false 2 1 (.v 4) (.v 5), none, none, []⟩,
       ⟨.mv (.l 0), some 3, none, []⟩]) (
     .seq (
     .reg [⟨.mv (.v 3), none, none, []⟩,
       ⟨.bin .lss false (.l 0) (.c (.int .i64 0)), none, none, []⟩,
       ⟨.mv (.l 1), none, none, []⟩,
       ⟨.mv (.v 3), none, some ((.l 2), false), []⟩,
       ⟨.bin .gtr false (.l 3) (.c (.int .i64 16)), none, some ((.l 2), false), []⟩,
       ⟨.pick (.l 2) (.c (.bool true)) (.l 4), some 7, none, []⟩]) (
     .cond (.v 7) (
      .seq (
      .reg [⟨.mv (.c (.bool false)), some 2, none, []⟩]) (
      .ret)) (
      .skip))))) (
    .reg [⟨.bin .add false (.v 5) (.c (.int .i64 1)), none, none, []⟩,
      ⟨.mv (.l 0), some 5, none, []⟩]))))))) (
  .seq (
  .reg [⟨.mv (.c (.bool true)), some 2, none, []⟩]) (
  .ret)))⟩

def X52 : XFn :=
 ⟨5, [0, 2], 0, [(1, none)],
  .seq (
  .reg [⟨.mv (.c (.bool false)), some 1, none, []⟩]) (
  .seq (
  .reg [⟨.mv (.v 0), none, none, []⟩,
    ⟨.bin .lss false (.l 0) (.c (.int .u8 64)), none, none, []⟩,
    ⟨.mv (.l 1), some 1, none, []⟩]) (
  .ret))⟩

def X41 : XFn :=
 ⟨100, [0, 1, 2, 5, 6, 7, 8, 9, 10, 11, 12, 14, 15, 16, 27, 34, 38, 39, 40, 41, 53, 63, 91], 8, [(4, none), (5, none), (6, none)],
  .seq (
  .reg [⟨.boxA 0 (.v 2), some 3, none, []⟩,
    ⟨.mv (.c .nils), some 4, none, []⟩,
    ⟨.mv (.c (.int .i64 0)), some 5, none, []⟩,
    ⟨.mv (.c (.int .i64 0)), some 6, none, []⟩]) (
  .seq (
  .seq (
  .reg [⟨.mv (.v 1), none, none, []⟩,
    ⟨.bin .lss false (.l 0) (.c (.int .i64 24)), none, none, []⟩,
    ⟨.mv (.l 1), none, none, []⟩,
    ⟨.mv (.v 1), none, some ((.l 2), false), []⟩,
    ⟨.bin .gtr false (.l 3) (.c (.int .i64 60)), none, some ((.l 2), false), []⟩,
    ⟨.pick (.l 2) (.c (.bool true)) (.l 4), none, none, []⟩,
    ⟨.mv (.l 5), none, none, []⟩,
    ⟨.loadA 2 (.v 3), none, some ((.l 6), false), []⟩,
    ⟨.call 53 [(.l 7)] [(0, 0)] true, none, some ((.l 6), false), []⟩,
    ⟨.un .not (.l 8), none, some ((.l 6), false), []⟩,
    ⟨.pick (.l 6) (.c (.bool true)) (.l 9), some 14, none, []⟩]) (
  .cond (.v 14) (
   .seq (
   .reg [⟨.mv (.c .nils), some 4, none, []⟩,
     ⟨.mv (.c (.int .i64 0)), some 5, none, []⟩,
     ⟨.mv (.c (.int .i64 1)), some 6, none, []⟩]) (
   .ret)) (
   .skip))) (
  .seq (
  .seq (
  .reg [⟨.mv (.v 0), none, none, []⟩,
    ⟨.call 35 [(.l 0)] [(0, 0), (0, 0)] true, none, none, []⟩,
    ⟨.mv (.l 1), none, none, []⟩,
    ⟨.extract (.l 2) 0, none, none, []⟩,
    ⟨.extract (.l 2) 1, none, none, []⟩,
    ⟨.mv (.l 3), some 7, none, []⟩,
    ⟨.mv (.l 4), some 8, none, []⟩]) (
  .seq (
  .reg [⟨.mv (.v 8), none, none, []⟩,
    ⟨.un .not (.l 0), some 15, none, []⟩]) (
  .cond (.v 15) (
   .seq (
   .reg [⟨.mv (.v 7), none, none, []⟩,
     ⟨.mv (.c .nils), some 4, none, []⟩,
     ⟨.mv (.l 0), some 5, none, []⟩,
     ⟨.mv (.c (.int .i64 180)), some 6, none, []⟩]) (
   .ret)) (
   .skip)))) (
  .seq (
  .reg [⟨.mv (.v 0), none, none, []⟩,
    ⟨.call 54 [(.l 0)] [(1, 1)] true, none, none, []⟩,
    ⟨.mv (.l 1), some 9, none, []⟩]) (
  .seq (
  .reg [⟨.mv (.c (.int .i64 0)), some 10, none, []⟩]) (
  .seq (
  .seq (
  .reg [⟨.mv (.v 9), some 16, none, []⟩,
    ⟨.len false (.l 0), some 17, none, []⟩,
    ⟨.mv (.c (.int .i64 0)), some 18, none, []⟩]) (
  .block 0 (
   .loopS [1, 3, 9, 10, 16, 17, 18] 8 (
    .seq (
    .reg [⟨.bin .lss false (.v 18) (.v 17), some 19, none, []⟩]) (
    .seq (
    .cond (.v 19) (
     .skip) (
     .exit 0)) (
    .seq (
    .block 1 (
     .seq (
     .reg [⟨.indexAddr 1 (.v 16) (.v 18), none, none, []⟩,
       ⟨.load false 1 (.l 0), none, none, []⟩,
       ⟨.mv (.l 1), some 11, none, []⟩]) (
     .seq (
     .seq (
     .reg [⟨.mv (.v 11), none, none, []⟩,
       ⟨.len false (.l 0), none, none, []⟩,
       ⟨.mv (.v 1), none, none, []⟩,
       ⟨.indexAddrA 2 1 (.v 3) (.c (.int .i64 0)), none, none, []⟩,
       ⟨.load false 1 (.l 3), none, none, []⟩,
       ⟨.indexAddrA 2 1 (.v 3) (.c (.int .i64 1)), none, none, []⟩,
       ⟨.load false 1 (.l 5), none, none, []⟩,
       ⟨.minmax true [(.l 4), (.l 6)], none, none, []⟩,
       ⟨.bin .sub false (.l 2) (.l 7), none, none, []⟩,
       ⟨.bin .gtr false (.l 1) (.l 8), some 20, none, []⟩]) (
     .cond (.v 20) (
      .seq (
      .reg [⟨.mv (.v 10), none, none, []⟩,
        ⟨.mv (.c .nils), some 4, none, []⟩,
        ⟨.mv (.l 0), some 5, none, []⟩,
        ⟨.mv (.c (.int .i64 181)), some 6, none, []⟩]) (
      .ret)) (
      .skip))) (
     .reg [⟨.mv (.v 10), none, none, []⟩,
       ⟨.mv (.v 11), none, none, []⟩,
       ⟨.len false (.l 1), none, none, []⟩,
       ⟨.bin .add false (.l 2) (.c (.int .i64 1)), none, none, []⟩,
       ⟨.bin .add false (.l 0) (.l 3), none, none, []⟩,
       ⟨.mv (.l 4), some 10, none, []⟩])))) (
    .reg [⟨.bin .add false (.v 18) (.c (.int .i64 1)), none, none, []⟩,
      ⟨.mv (.l 0), some 18, none, []⟩]))))))) (
  .seq (
  .reg [⟨.mv (.c .nils), some 12, none, []⟩]) (
  .seq (
  .skip) (
  .seq (
  .block 2 (
   .loopS [1, 3, 9, 12] 8 (
    .seq (
    .seq (
    .reg [⟨.mv (.v 9), none, none, []⟩,
      ⟨.len false (.l 0), none, none, []⟩,
      ⟨.bin .gtr false (.l 1) (.c (.int .i64 0)), some 21, none, []⟩]) (
    .cond (.v 21) (
     .skip) (
     .exit 2))) (
    .block 3 (
     .seq (
     .reg [⟨.mv (.v 12), none, none, []⟩,
       ⟨.len false (.l 0), none, none, []⟩,
       ⟨.minmax false [(.l 1), (.c (.int .i64 1))], none, none, []⟩,
       ⟨.indexAddrA 2 1 (.v 3) (.l 2), none, none, []⟩,
       ⟨.load false 1 (.l 3), none, none, []⟩,
       ⟨.call 55 [(.l 4)] [(2, 1)] true, none, none, []⟩,
       ⟨.mv (.l 5), some 13, none, []⟩]) (
     .block 4 (
      .loopS [1, 3, 9, 12, 13] 8 (
       .block 5 (
        .seq (
        .reg [⟨.mv (.v 13), none, none, []⟩,
          ⟨.mv (.v 9), none, none, []⟩,
          ⟨.indexAddr 1 (.l 1) (.c (.int .i64 0)), none, none, []⟩,
          ⟨.load false 1 (.l 2), none, none, []⟩,
          ⟨.append 3 1 1 0 (.l 0) (.l 3), none, none, []⟩,
          ⟨.mv (.l 4), some 13, none, []⟩]) (
        .seq (
        .reg [⟨.mv (.v 9), none, none, []⟩,
          ⟨.slice false 1 (.l 0) (some (.c (.int .i64 1))) none none, none, none, []⟩,
          ⟨.mv (.l 1), some 9, none, []⟩]) (
        .seq (
        .seq (
        .reg [⟨.mv (.v 9), none, none, []⟩,
          ⟨.len false (.l 0), none, none, []⟩,
          ⟨.bin .eql false (.l 1) (.c (.int .i64 0)), none, none, []⟩,
          ⟨.mv (.l 2), none, none, []⟩,
          ⟨.mv (.v 13), none, some ((.l 3), false), []⟩,
          ⟨.len false (.l 4), none, some ((.l 3), false), []⟩,
          ⟨.bin .add false (.l 5) (.c (.int .i64 1)), none, some ((.l 3), false), []⟩,
          ⟨.mv (.v 9), none, some ((.l 3), false), []⟩,
          ⟨.indexAddr 1 (.l 7) (.c (.int .i64 0)), none, some ((.l 3), false), []⟩,
          ⟨.load false 1 (.l 8), none, some ((.l 3), false), []⟩,
          ⟨.len false (.l 9), none, some ((.l 3), false), []⟩,
          ⟨.bin .add false (.l 6) (.l 10), none, some ((.l 3), false), []⟩,
          ⟨.mv (.v 1), none, some ((.l 3), false), []⟩,
          ⟨.bin .gtr false (.l 11) (.l 12), none, some ((.l 3), false), []⟩,
          ⟨.pick (.l 3) (.c (.bool true)) (.l 13), some 22, none, []⟩]) (
        .cond (.v 22) (
         .seq (
         .reg [⟨.mv (.v 12), none, none, []⟩,
           ⟨.mv (.v 13), none, none, []⟩,
           ⟨.mkarr 4 1 [.nils] [(0, (.l 1))], none, none, []⟩,
           ⟨.append 5 1 24 1 (.l 0) (.l 2), none, none, []⟩,
           ⟨.mv (.l 3), some 12, none, []⟩]) (
         .exit 3)) (
         .skip))) (
        .reg [⟨.mv (.v 13), none, none, []⟩,
          ⟨.mkarr 6 1 [(.int .u8 0)] [(0, (.c (.int .u8 0)))], none, none, []⟩,
          ⟨.append 7 1 1 1 (.l 0) (.l 1), none, none, []⟩,
          ⟨.mv (.l 2), some 13, none, []⟩])))))))))))) (
  .seq (
  .reg [⟨.mv (.v 12), none, none, []⟩,
    ⟨.mv (.l 0), some 4, none, []⟩,
    ⟨.mv (.c (.int .i64 0)), some 5, none, []⟩,
    ⟨.mv (.c (.int .i64 0)), some 6, none, []⟩]) (
  .ret))))))))))⟩

def X44 : XFn :=
 ⟨101, [0, 1, 2, 5, 6, 7, 8, 9, 10, 11, 12, 13, 24, 32, 45, 61, 74], 15, [(4, some (true, 3))],
  .seq (
  .reg [⟨.boxA 0 (.v 2), some 3, none, []⟩,
    ⟨.alloc 1 [.nils, (.int .i64 0), (.int .i64 0)], some 4, none, []⟩]) (
  .seq (
  .seq (
  .reg [⟨.mv (.v 1), none, none, []⟩,
    ⟨.bin .lss false (.l 0) (.c (.int .i64 24)), none, none, []⟩,
    ⟨.mv (.l 1), none, none, []⟩,
    ⟨.mv (.v 1), none, some ((.l 2), false), []⟩,
    ⟨.bin .gtr false (.l 3) (.c (.int .i64 60)), none, some ((.l 2), false), []⟩,
    ⟨.pick (.l 2) (.c (.bool true)) (.l 4), none, none, []⟩,
    ⟨.mv (.l 5), none, none, []⟩,
    ⟨.loadA 2 (.v 3), none, some ((.l 6), false), []⟩,
    ⟨.call 56 [(.l 7)] [(0, 0)] true, none, some ((.l 6), false), []⟩,
    ⟨.un .not (.l 8), none, some ((.l 6), false), []⟩,
    ⟨.pick (.l 6) (.c (.bool true)) (.l 9), some 12, none, []⟩]) (
  .cond (.v 12) (
   .seq (
   .reg [⟨.build [.nils, (.int .i64 0), (.int .i64 0)] [(2, 1, (.c (.int .i64 1)))], none, none, []⟩,
     ⟨.store 3 (.v 4) (.l 0), none, none, []⟩]) (
   .ret)) (
   .skip))) (
  .seq (
  .reg [⟨.mv (.v 0), none, none, []⟩,
    ⟨.call 57 [(.l 0)] [(0, 0), (0, 0)] true, none, none, []⟩,
    ⟨.mv (.l 1), none, none, []⟩,
    ⟨.extract (.l 2) 0, none, none, []⟩,
    ⟨.extract (.l 2) 1, none, none, []⟩,
    ⟨.mv (.l 3), some 5, none, []⟩,
    ⟨.mv (.l 4), some 6, none, []⟩]) (
  .seq (
  .seq (
  .reg [⟨.mv (.v 6), none, none, []⟩,
    ⟨.un .not (.l 0), some 13, none, []⟩]) (
  .cond (.v 13) (
   .seq (
   .reg [⟨.mv (.v 5), none, none, []⟩,
     ⟨.build [.nils, (.int .i64 0), (.int .i64 0)] [(1, 1, (.l 0)), (2, 1, (.c (.int .i64 180)))], none, none, []⟩,
     ⟨.store 3 (.v 4) (.l 1), none, none, []⟩]) (
   .ret)) (
   .skip))) (
  .seq (
  .reg [⟨.mv (.v 0), none, none, []⟩,
    ⟨.mv (.v 1), none, none, []⟩,
    ⟨.indexAddrA 2 1 (.v 3) (.c (.int .i64 0)), none, none, []⟩,
    ⟨.load false 1 (.l 2), none, none, []⟩,
    ⟨.indexAddrA 2 1 (.v 3) (.c (.int .i64 1)), none, none, []⟩,
    ⟨.load false 1 (.l 4), none, none, []⟩,
    ⟨.minmax true [(.l 3), (.l 5)], none, none, []⟩,
    ⟨.bin .sub false (.l 1) (.l 6), none, none, []⟩,
    ⟨.call 58 [(.l 0), (.l 7)] [(0, 0)] true, none, none, []⟩,
    ⟨.mv (.l 8), some 7, none, []⟩]) (
  .seq (
  .seq (
  .reg [⟨.mv (.v 7), none, none, []⟩,
    ⟨.bin .geq false (.l 0) (.c (.int .i64 0)), some 14, none, []⟩]) (
  .cond (.v 14) (
   .seq (
   .reg [⟨.mv (.v 7), none, none, []⟩,
     ⟨.build [.nils, (.int .i64 0), (.int .i64 0)] [(1, 1, (.l 0)), (2, 1, (.c (.int .i64 181)))], none, none, []⟩,
     ⟨.store 3 (.v 4) (.l 1), none, none, []⟩]) (
   .ret)) (
   .skip))) (
  .seq (
  .reg [⟨.mv (.v 0), none, none, []⟩,
    ⟨.call 59 [(.l 0)] [(2, 1)] true, none, none, []⟩,
    ⟨.mkarr 3 1 [] [], none, none, []⟩,
    ⟨.mv (.l 1), some 8, none, []⟩,
    ⟨.mv (.l 2), some 9, none, []⟩]) (
  .seq (
  .reg [⟨.indexAddrA 2 1 (.v 3) (.c (.int .i64 0)), none, none, []⟩,
    ⟨.load false 1 (.l 0), none, none, []⟩,
    ⟨.makeSlice 4 1 1 (.int .u8 0) (.l 1) (.l 1), none, none, []⟩,
    ⟨.mv (.v 8), none, none, [4]⟩,
    ⟨.indexAddr 1 (.l 3) (.c (.int .i64 0)), none, none, [4]⟩,
    ⟨.load false 1 (.l 4), none, none, [4]⟩,
    ⟨.append 4 1 1 2 (.l 2) (.l 5), none, none, []⟩,
    ⟨.mv (.l 6), some 10, none, []⟩]) (
  .seq (
  .seq (
  .reg [⟨.mv (.c (.int .i64 1)), some 11, none, []⟩]) (
  .block 0 (
   .loopS [1, 3, 4, 8, 9, 10, 11] 15 (
    .seq (
    .seq (
    .reg [⟨.mv (.v 11), none, none, []⟩,
      ⟨.mv (.v 8), none, none, []⟩,
      ⟨.len false (.l 1), none, none, []⟩,
      ⟨.bin .lss false (.l 0) (.l 2), some 15, none, []⟩]) (
    .cond (.v 15) (
     .skip) (
     .exit 0))) (
    .seq (
    .block 1 (
     .seq (
     .seq (
     .reg [⟨.mv (.v 10), none, none, []⟩,
       ⟨.len false (.l 0), none, none, []⟩,
       ⟨.bin .add false (.l 1) (.c (.int .i64 1)), none, none, []⟩,
       ⟨.mv (.v 8), none, none, []⟩,
       ⟨.mv (.v 11), none, none, []⟩,
       ⟨.indexAddr 1 (.l 3) (.l 4), none, none, []⟩,
       ⟨.load false 1 (.l 5), none, none, []⟩,
       ⟨.len false (.l 6), none, none, []⟩,
       ⟨.bin .add false (.l 2) (.l 7), none, none, []⟩,
       ⟨.mv (.v 1), none, none, []⟩,
       ⟨.bin .gtr false (.l 8) (.l 9), some 16, none, []⟩]) (
     .cond (.v 16) (
      .seq (
      .reg [⟨.mv (.v 9), none, none, []⟩,
        ⟨.mv (.v 10), none, none, []⟩,
        ⟨.mkarr 6 1 [.nils] [(0, (.l 1))], none, none, []⟩,
        ⟨.append 7 1 24 1 (.l 0) (.l 2), none, none, []⟩,
        ⟨.mv (.l 3), some 9, none, []⟩]) (
      .seq (
      .reg [⟨.indexAddrA 2 1 (.v 3) (.c (.int .i64 1)), none, none, []⟩,
        ⟨.load false 1 (.l 0), none, none, []⟩,
        ⟨.makeSlice 8 1 1 (.int .u8 0) (.l 1) (.l 1), none, none, []⟩,
        ⟨.mv (.v 8), none, none, [8]⟩,
        ⟨.mv (.v 11), none, none, [8]⟩,
        ⟨.indexAddr 1 (.l 3) (.l 4), none, none, [8]⟩,
        ⟨.load false 1 (.l 5), none, none, [8]⟩,
        ⟨.append 8 1 1 2 (.l 2) (.l 6), none, none, []⟩,
        ⟨.mv (.l 7), some 10, none, []⟩]) (
      .exit 1))) (
      .skip))) (
     .seq (
     .reg [⟨.mv (.v 10), none, none, []⟩,
       ⟨.mkarr 10 1 [(.int .u8 0)] [(0, (.c (.int .u8 0)))], none, none, []⟩,
       ⟨.append 11 1 1 1 (.l 0) (.l 1), none, none, []⟩,
       ⟨.mv (.l 2), some 10, none, []⟩]) (
     .reg [⟨.mv (.v 10), none, none, []⟩,
       ⟨.mv (.v 8), none, none, []⟩,
       ⟨.mv (.v 11), none, none, []⟩,
       ⟨.indexAddr 1 (.l 1) (.l 2), none, none, []⟩,
       ⟨.load false 1 (.l 3), none, none, []⟩,
       ⟨.append 12 1 1 0 (.l 0) (.l 4), none, none, []⟩,
       ⟨.mv (.l 5), some 10, none, []⟩])))) (
    .reg [⟨.mv (.v 11), none, none, []⟩,
      ⟨.bin .add false (.l 0) (.c (.int .i64 1)), none, none, []⟩,
      ⟨.mv (.l 1), some 11, none, []⟩])))))) (
  .seq (
  .reg [⟨.mv (.v 9), none, none, []⟩,
    ⟨.mv (.v 10), none, none, []⟩,
    ⟨.mkarr 13 1 [.nils] [(0, (.l 1))], none, none, []⟩,
    ⟨.append 14 1 24 1 (.l 0) (.l 2), none, none, []⟩,
    ⟨.build [.nils, (.int .i64 0), (.int .i64 0)] [(0, 1, (.l 3))], none, none, []⟩,
    ⟨.store 3 (.v 4) (.l 4), none, none, []⟩]) (
  .ret))))))))))⟩

def X15 : XFn :=
 ⟨27, [0, 1, 4, 5, 10, 14, 26], 0, [(2, none)],
  .seq (
  .reg [⟨.mv (.c (.bool false)), some 2, none, []⟩]) (
  .seq (
  .seq (
  .reg [⟨.mv (.v 0), none, none, []⟩,
    ⟨.len false (.l 0), none, none, []⟩,
    ⟨.mv (.v 1), none, none, []⟩,
    ⟨.len false (.l 2), none, none, []⟩,
    ⟨.bin .neq false (.l 1) (.l 3), some 4, none, []⟩]) (
  .cond (.v 4) (
   .seq (
   .reg [⟨.mv (.c (.bool false)), some 2, none, []⟩]) (
   .ret)) (
   .skip))) (
  .seq (
  .seq (
  .reg [⟨.mv (.c (.int .i64 0)), some 3, none, []⟩]) (
  .block 0 (
   .loopS [0, 1, 3] 0 (
    .seq (
    .seq (
    .reg [⟨.mv (.v 3), none, none, []⟩,
      ⟨.mv (.v 0), none, none, []⟩,
      ⟨.len false (.l 1), none, none, []⟩,
      ⟨.bin .lss false (.l 0) (.l 2), some 5, none, []⟩]) (
    .cond (.v 5) (
     .skip) (
     .exit 0))) (
    .seq (
    .block 1 (
     .seq (
     .reg [⟨.mv (.v 0), none, none, []⟩,
       ⟨.mv (.v 3), none, none, []⟩,
       ⟨.indexAddr 1 (.l 0) (.l 1), none, none, []⟩,
       ⟨.load false 1 (.l 2), none, none, []⟩,
       ⟨.mv (.v 1), none, none, []⟩,
       ⟨.mv (.v 3), none, none, []⟩,
       ⟨.indexAddr 1 (.l 4) (.l 5), none, none, []⟩,
       ⟨.load false 1 (.l 6), none, none, []⟩,
       ⟨.call 29 [(.l 3), (.l 7)] [(0, 0)] false, none, none, []⟩,
       ⟨.un .not (.l 8), some 6, none, []⟩]) (
     .cond (.v 6) (
      .seq (
      .reg [⟨.mv (.c (.bool false)), some 2, none, []⟩]) (
      .ret)) (
      .skip)))) (
    .reg [⟨.mv (.v 3), none, none, []⟩,
      ⟨.bin .add false (.l 0) (.c (.int .i64 1)), none, none, []⟩,
      ⟨.mv (.l 1), some 3, none, []⟩])))))) (
  .seq (
  .reg [⟨.mv (.c (.bool true)), some 2, none, []⟩]) (
  .ret))))⟩

def X29 : XFn :=
 ⟨26, [0, 1, 4, 5, 10, 14, 25], 0, [(2, none)],
  .seq (
  .reg [⟨.mv (.c (.bool false)), some 2, none, []⟩]) (
  .seq (
  .seq (
  .reg [⟨.mv (.v 0), none, none, []⟩,
    ⟨.len false (.l 0), none, none, []⟩,
    ⟨.mv (.v 1), none, none, []⟩,
    ⟨.len false (.l 2), none, none, []⟩,
    ⟨.bin .neq false (.l 1) (.l 3), some 4, none, []⟩]) (
  .cond (.v 4) (
   .seq (
   .reg [⟨.mv (.c (.bool false)), some 2, none, []⟩]) (
   .ret)) (
   .skip))) (
  .seq (
  .seq (
  .reg [⟨.mv (.c (.int .i64 0)), some 3, none, []⟩]) (
  .block 0 (
   .loopS [0, 1, 3] 0 (
    .seq (
    .seq (
    .reg [⟨.mv (.v 3), none, none, []⟩,
      ⟨.mv (.v 0), none, none, []⟩,
      ⟨.len false (.l 1), none, none, []⟩,
      ⟨.bin .lss false (.l 0) (.l 2), some 5, none, []⟩]) (
    .cond (.v 5) (
     .skip) (
     .exit 0))) (
    .seq (
    .block 1 (
     .seq (
     .reg [⟨.mv (.v 0), none, none, []⟩,
       ⟨.mv (.v 3), none, none, []⟩,
       ⟨.indexAddr 1 (.l 0) (.l 1), none, none, []⟩,
       ⟨.load false 1 (.l 2), none, none, []⟩,
       ⟨.mv (.v 1), none, none, []⟩,
       ⟨.mv (.v 3), none, none, []⟩,
       ⟨.indexAddr 1 (.l 4) (.l 5), none, none, []⟩,
       ⟨.load false 1 (.l 6), none, none, []⟩,
       ⟨.bin .neq false (.l 3) (.l 7), some 6, none, []⟩]) (
     .cond (.v 6) (
      .seq (
      .reg [⟨.mv (.c (.bool false)), some 2, none, []⟩]) (
      .ret)) (
      .skip)))) (
    .reg [⟨.mv (.v 3), none, none, []⟩,
      ⟨.bin .add false (.l 0) (.c (.int .i64 1)), none, none, []⟩,
      ⟨.mv (.l 1), some 3, none, []⟩])))))) (
  .seq (
  .reg [⟨.mv (.c (.bool true)), some 2, none, []⟩]) (
  .ret))))⟩

theorem c35 : compFn Try.prog 35 = some { X35 with body := strip X35.body } := by kernel_rfl
theorem c57 : compFn Try.prog 57 = some { X57 with body := strip X57.body } := by kernel_rfl
theorem c48 : compFn Try.prog 48 = some { X48 with body := strip X48.body } := by kernel_rfl
theorem c58 : compFn Try.prog 58 = some { X58 with body := strip X58.body } := by kernel_rfl
theorem c59 : compFn Try.prog 59 = some { X59 with body := strip X59.body } := by kernel_rfl
theorem c54 : compFn Try.prog 54 = some { X54 with body := strip X54.body } := by kernel_rfl
theorem c55 : compFn Try.prog 55 = some { X55 with body := strip X55.body } := by kernel_rfl
theorem c56 : compFn Try.prog 56 = some { X56 with body := strip X56.body } := by kernel_rfl
theorem c53 : compFn Try.prog 53 = some { X53 with body := strip X53.body } := by kernel_rfl
theorem c52 : compFn Try.prog 52 = some { X52 with body := strip X52.body } := by kernel_rfl
theorem c41 : compFn Try.prog 41 = some { X41 with body := strip X41.body } := by kernel_rfl
theorem c44 : compFn Try.prog 44 = some { X44 with body := strip X44.body } := by kernel_rfl
theorem c15 : compFn Try.prog 15 = some { X15 with body := strip X15.body } := by kernel_rfl
theorem c29 : compFn Try.prog 29 = some { X29 with body := strip X29.body } := by kernel_rfl
end Go.Proofs.Ytfpkcjjgooigbaa.L
