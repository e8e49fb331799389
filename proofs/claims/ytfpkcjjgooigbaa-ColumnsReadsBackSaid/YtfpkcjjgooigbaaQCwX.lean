/-
  Chapter 20: the laws and the fixed examples, as the machine takes them (printed).
-/
import Derived.Test.YtfpkcjjgooigbaaProg
import Derived.KernelRfl
import Derived.Test.YtfpkcjjgooigbaaMg4
namespace Go.Proofs.Ytfpkcjjgooigbaa.C
set_option linter.unusedSimpArgs false
set_option linter.unusedVariables false
set_option linter.unusedSectionVars false
open Go.Proofs.Ytfpkcjjgooigbaa.Am
def X3 : XFn :=
 ⟨89, [0, 1, 2, 3, 5, 6, 7, 8, 9, 10, 11, 12, 13, 28, 47], 17, [(5, none)],
  .seq (
  .reg [⟨.box 0 (.v 0), some 3, none, []⟩,
    ⟨.boxA 1 (.v 2), some 4, none, []⟩,
    ⟨.mv (.c (.bool false)), some 5, none, []⟩]) (
  .seq (
  .reg [⟨.call 8 [] [(0, 0)] true, none, none, []⟩,
    ⟨.mv (.l 0), some 6, none, []⟩]) (
  .seq (
  .reg [⟨.load true 3 (.v 3), none, none, []⟩,
    ⟨.call 9 [(.l 0)] [(2, 1)] true, none, none, []⟩,
    ⟨.mv (.v 1), none, none, []⟩,
    ⟨.bin .rem false (.l 2) (.c (.int .u8 44)), none, none, []⟩,
    ⟨.conv .i64 (.l 3), none, none, []⟩,
    ⟨.bin .add false (.c (.int .i64 20)) (.l 4), none, none, []⟩,
    ⟨.mv (.l 1), some 7, none, []⟩,
    ⟨.mv (.l 5), some 8, none, []⟩]) (
  .seq (
  .seq (
  .reg [⟨.mv (.v 7), none, none, []⟩,
    ⟨.mv (.v 8), none, none, []⟩,
    ⟨.call 11 [(.l 0), (.l 1)] [(3, 1), (0, 0), (0, 0)] true, none, none, []⟩,
    ⟨.mv (.v 7), none, none, []⟩,
    ⟨.mv (.v 8), none, none, []⟩,
    ⟨.call 12 [(.l 3), (.l 4)] [(4, 1), (0, 0), (0, 0)] true, none, none, []⟩,
    ⟨.call 10 [(.l 2), (.l 5)] [(0, 0)] true, none, none, []⟩,
    ⟨.un .not (.l 6), some 13, none, []⟩]) (
  .cond (.v 13) (
   .seq (
   .reg [⟨.mv (.c (.bool false)), some 5, none, []⟩]) (
   .ret)) (
   .skip))) (
  .seq (
  .reg [⟨.indexAddrA 3 1 (.v 4) (.c (.int .i64 0)), none, none, []⟩,
    ⟨.load false 1 (.l 0), none, none, []⟩,
    ⟨.conv .i64 (.l 1), none, none, []⟩,
    ⟨.mv (.v 7), none, none, []⟩,
    ⟨.len false (.l 3), none, none, []⟩,
    ⟨.bin .rem false (.l 2) (.l 4), none, none, []⟩,
    ⟨.mv (.l 5), some 9, none, []⟩]) (
  .seq (
  .reg [⟨.mkarr 5 1 [] [], none, none, []⟩,
    ⟨.mv (.v 7), none, none, []⟩,
    ⟨.append 5 1 24 2 (.l 0) (.l 1), none, none, []⟩,
    ⟨.mv (.l 2), some 10, none, []⟩]) (
  .seq (
  .reg [⟨.mkarr 7 1 [] [], none, none, []⟩,
    ⟨.mv (.v 7), none, none, []⟩,
    ⟨.mv (.v 9), none, none, []⟩,
    ⟨.indexAddr 1 (.l 1) (.l 2), none, none, []⟩,
    ⟨.load false 1 (.l 3), none, none, []⟩,
    ⟨.append 7 1 24 2 (.l 0) (.l 4), none, none, []⟩,
    ⟨.mv (.l 5), some 11, none, []⟩]) (
  .seq (
  .seq (
  .reg [⟨.indexAddrA 3 1 (.v 4) (.c (.int .i64 1)), none, none, []⟩,
    ⟨.load false 1 (.l 0), none, none, []⟩,
    ⟨.bin .rem false (.l 1) (.c (.int .u8 3)), none, none, []⟩,
    ⟨.bin .eql false (.l 2) (.c (.int .u8 0)), some 14, none, []⟩]) (
  .cond (.v 14) (
   .reg [⟨.mv (.v 10), none, none, []⟩,
     ⟨.mv (.v 9), none, none, []⟩,
     ⟨.mv (.v 11), none, none, []⟩,
     ⟨.lit 1 [(.int .u8 0)] [(0, (.c (.int .u8 1)))], none, none, []⟩,
     ⟨.mkarr 9 1 [.nils] [(0, (.l 3))], none, none, []⟩,
     ⟨.append 10 1 24 1 (.l 2) (.l 4), none, none, []⟩,
     ⟨.indexAddr 1 (.l 0) (.l 1), none, none, []⟩,
     ⟨.store 1 (.l 6) (.l 5), none, none, []⟩]) (
   .seq (
   .reg [⟨.indexAddrA 3 1 (.v 4) (.c (.int .i64 1)), none, none, []⟩,
     ⟨.load false 1 (.l 0), none, none, []⟩,
     ⟨.conv .i64 (.l 1), none, none, []⟩,
     ⟨.mv (.v 11), none, none, []⟩,
     ⟨.len false (.l 3), none, none, []⟩,
     ⟨.bin .rem false (.l 2) (.l 4), none, none, []⟩,
     ⟨.mv (.l 5), some 12, none, []⟩]) (
   .seq (
   .reg [⟨.mv (.v 11), none, none, [11, 11, 13, 14]⟩,
     ⟨.mv (.v 12), none, none, [11, 11, 13, 14]⟩,
     ⟨.mkarr 11 1 [] [], none, none, [13]⟩,
     ⟨.mv (.v 11), none, none, [11, 13]⟩,
     ⟨.mv (.v 12), none, none, [11, 13]⟩,
     ⟨.indexAddr 1 (.l 3) (.l 4), none, none, [11, 13]⟩,
     ⟨.load false 1 (.l 5), none, none, [11, 13]⟩,
     ⟨.append 11 1 1 2 (.l 2) (.l 6), none, none, [13]⟩,
     ⟨.indexAddrA 3 1 (.v 4) (.c (.int .i64 2)), none, none, [11, 11]⟩,
     ⟨.load false 1 (.l 8), none, none, [11, 11]⟩,
     ⟨.bin .rem false (.l 9) (.c (.int .u8 66)), none, none, [11, 11]⟩,
     ⟨.mkarr 13 1 [(.int .u8 0)] [(0, (.l 10))], none, none, [11, 11]⟩,
     ⟨.append 14 1 1 1 (.l 7) (.l 11), none, none, []⟩,
     ⟨.indexAddr 1 (.l 0) (.l 1), none, none, []⟩,
     ⟨.store 1 (.l 13) (.l 12), none, none, []⟩]) (
   .reg [⟨.mv (.v 10), none, none, []⟩,
     ⟨.mv (.v 9), none, none, []⟩,
     ⟨.mv (.v 11), none, none, []⟩,
     ⟨.indexAddr 1 (.l 0) (.l 1), none, none, []⟩,
     ⟨.store 1 (.l 3) (.l 2), none, none, []⟩]))))) (
  .seq (
  .frz [(5, true)] (
  .mat 10 none 0 0 (
  .reg [⟨.mv (.v 10), none, none, []⟩,
    ⟨.mv (.v 8), none, none, []⟩,
    ⟨.call 11 [(.l 0), (.l 1)] [(15, 1), (0, 0), (0, 0)] true, none, none, []⟩,
    ⟨.mv (.v 10), none, none, []⟩,
    ⟨.mv (.v 8), none, none, []⟩,
    ⟨.call 12 [(.l 3), (.l 4)] [(16, 1), (0, 0), (0, 0)] true, none, none, []⟩,
    ⟨.call 10 [(.l 2), (.l 5)] [(0, 0)] true, none, none, []⟩,
    ⟨.mv (.l 6), none, none, []⟩,
    ⟨.mv (.v 6), none, some ((.l 7), true), []⟩,
    ⟨.pick (.l 7) (.l 8) (.c (.bool false)), none, none, []⟩,
    ⟨.mv (.l 9), some 5, none, []⟩]))) (
  .ret)))))))))⟩

def X4 : XFn :=
 ⟨52, [0, 1, 2, 4, 5, 6, 7, 8, 9, 10, 23], 5, [(3, none)],
  .seq (
  .reg [⟨.box 0 (.v 0), some 2, none, []⟩,
    ⟨.mv (.c (.bool false)), some 3, none, []⟩]) (
  .seq (
  .reg [⟨.call 8 [] [(0, 0)] true, none, none, []⟩,
    ⟨.mv (.l 0), some 4, none, []⟩]) (
  .seq (
  .reg [⟨.load true 3 (.v 2), none, none, []⟩,
    ⟨.call 9 [(.l 0)] [(1, 1)] true, none, none, []⟩,
    ⟨.mv (.v 1), none, none, []⟩,
    ⟨.bin .rem false (.l 2) (.c (.int .u8 37)), none, none, []⟩,
    ⟨.conv .i64 (.l 3), none, none, []⟩,
    ⟨.bin .add false (.c (.int .i64 24)) (.l 4), none, none, []⟩,
    ⟨.mv (.l 1), some 5, none, []⟩,
    ⟨.mv (.l 5), some 6, none, []⟩]) (
  .seq (
  .reg [⟨.mv (.v 5), none, none, []⟩,
    ⟨.mv (.v 6), none, none, []⟩,
    ⟨.call 11 [(.l 0), (.l 1)] [(2, 1), (0, 0), (0, 0)] true, none, none, []⟩,
    ⟨.alloc 3 [.nils, (.int .i64 0), (.int .i64 0)], some 7, none, []⟩,
    ⟨.store 3 (.l 3) (.l 2), none, none, []⟩]) (
  .seq (
  .seq (
  .reg [⟨.fieldAddr 2 (.v 7), none, none, []⟩,
    ⟨.load false 1 (.l 0), none, none, []⟩,
    ⟨.bin .neq false (.l 1) (.c (.int .i64 0)), some 10, none, []⟩]) (
  .cond (.v 10) (
   .seq (
   .reg [⟨.fieldAddr 2 (.v 7), none, none, []⟩,
     ⟨.load false 1 (.l 0), none, none, []⟩,
     ⟨.bin .eql false (.l 1) (.c (.int .i64 181)), none, none, []⟩,
     ⟨.mv (.l 2), none, none, []⟩,
     ⟨.mv (.v 4), none, some ((.l 3), true), []⟩,
     ⟨.pick (.l 3) (.l 4) (.c (.bool false)), none, none, []⟩,
     ⟨.mv (.l 5), some 3, none, []⟩]) (
   .ret)) (
   .skip))) (
  .seq (
  .reg [⟨.fieldAddr 0 (.v 7), none, none, []⟩,
    ⟨.load false 1 (.l 0), none, none, []⟩,
    ⟨.fieldAddr 1 (.v 7), none, none, []⟩,
    ⟨.load false 1 (.l 2), none, none, []⟩,
    ⟨.mv (.v 5), none, none, []⟩,
    ⟨.indexAddr 1 (.l 4) (.c (.int .i64 0)), none, none, []⟩,
    ⟨.load false 1 (.l 5), none, none, []⟩,
    ⟨.len false (.l 6), none, none, []⟩,
    ⟨.call 13 [(.l 1), (.l 3), (.l 7)] [(4, 1), (0, 0)] false, none, none, []⟩,
    ⟨.mv (.l 8), none, none, []⟩,
    ⟨.extract (.l 9) 0, none, none, []⟩,
    ⟨.extract (.l 9) 1, none, none, []⟩,
    ⟨.mv (.l 10), some 8, none, []⟩,
    ⟨.mv (.l 11), some 9, none, []⟩]) (
  .seq (
  .reg [⟨.mv (.v 9), none, none, []⟩,
    ⟨.bin .eql false (.l 0) (.c (.int .i64 0)), none, none, []⟩,
    ⟨.mv (.l 1), none, none, []⟩,
    ⟨.mv (.v 8), none, some ((.l 2), true), []⟩,
    ⟨.mv (.v 5), none, some ((.l 2), true), []⟩,
    ⟨.call 14 [(.l 3), (.l 4)] [(0, 0)] true, none, some ((.l 2), true), []⟩,
    ⟨.pick (.l 2) (.l 5) (.c (.bool false)), none, none, []⟩,
    ⟨.mv (.l 6), none, none, []⟩,
    ⟨.mv (.v 4), none, some ((.l 7), true), []⟩,
    ⟨.pick (.l 7) (.l 8) (.c (.bool false)), none, none, []⟩,
    ⟨.mv (.l 9), some 3, none, []⟩]) (
  .ret)))))))⟩

def X5 : XFn :=
 ⟨122, [0, 1, 2, 4, 5, 6, 7, 8, 9, 10, 11, 24, 88, 93, 120], 4, [(3, none)],
  .seq (
  .reg [⟨.box 0 (.v 0), some 2, none, []⟩,
    ⟨.mv (.c (.bool false)), some 3, none, []⟩]) (
  .seq (
  .reg [⟨.call 8 [] [(0, 0)] true, none, none, []⟩,
    ⟨.mv (.l 0), some 4, none, []⟩]) (
  .seq (
  .reg [⟨.load true 3 (.v 2), none, none, []⟩,
    ⟨.call 9 [(.l 0)] [(1, 1)] true, none, none, []⟩,
    ⟨.mv (.v 1), none, none, []⟩,
    ⟨.bin .rem false (.l 2) (.c (.int .u8 37)), none, none, []⟩,
    ⟨.conv .i64 (.l 3), none, none, []⟩,
    ⟨.bin .add false (.c (.int .i64 24)) (.l 4), none, none, []⟩,
    ⟨.mv (.l 1), some 5, none, []⟩,
    ⟨.mv (.l 5), some 6, none, []⟩]) (
  .seq (
  .reg [⟨.mv (.v 5), none, none, []⟩,
    ⟨.mv (.v 6), none, none, []⟩,
    ⟨.call 11 [(.l 0), (.l 1)] [(2, 1), (0, 0), (0, 0)] true, none, none, []⟩,
    ⟨.alloc 3 [.nils, (.int .i64 0), (.int .i64 0)], some 7, none, []⟩,
    ⟨.store 3 (.l 3) (.l 2), none, none, []⟩]) (
  .seq (
  .seq (
  .reg [⟨.fieldAddr 2 (.v 7), none, none, []⟩,
    ⟨.load false 1 (.l 0), none, none, []⟩,
    ⟨.bin .neq false (.l 1) (.c (.int .i64 0)), some 11, none, []⟩]) (
  .cond (.v 11) (
   .seq (
   .reg [⟨.fieldAddr 0 (.v 7), none, none, []⟩,
     ⟨.load false 1 (.l 0), none, none, []⟩,
     ⟨.len false (.l 1), none, none, []⟩,
     ⟨.bin .eql false (.l 2) (.c (.int .i64 0)), none, none, []⟩,
     ⟨.mv (.l 3), none, none, []⟩,
     ⟨.fieldAddr 1 (.v 7), none, some ((.l 4), true), []⟩,
     ⟨.load false 1 (.l 5), none, some ((.l 4), true), []⟩,
     ⟨.bin .eql false (.l 6) (.c (.int .i64 0)), none, some ((.l 4), true), []⟩,
     ⟨.pick (.l 4) (.l 7) (.c (.bool false)), none, none, []⟩,
     ⟨.mv (.l 8), none, none, []⟩,
     ⟨.mv (.v 4), none, some ((.l 9), true), []⟩,
     ⟨.pick (.l 9) (.l 10) (.c (.bool false)), none, none, []⟩,
     ⟨.mv (.l 11), some 3, none, []⟩]) (
   .ret)) (
   .skip))) (
  .seq (
  .reg [⟨.mv (.v 5), none, none, []⟩,
    ⟨.len false (.l 0), none, none, []⟩,
    ⟨.mv (.v 5), none, none, []⟩,
    ⟨.indexAddr 1 (.l 2) (.c (.int .i64 0)), none, none, []⟩,
    ⟨.load false 1 (.l 3), none, none, []⟩,
    ⟨.len false (.l 4), none, none, []⟩,
    ⟨.bin .mul false (.l 1) (.l 5), none, none, []⟩,
    ⟨.mv (.l 6), some 8, none, []⟩]) (
  .seq (
  .seq (
  .reg [⟨.fieldAddr 1 (.v 7), none, none, []⟩,
    ⟨.load false 1 (.l 0), none, none, []⟩,
    ⟨.bin .eql false (.l 1) (.c (.int .i64 1)), none, none, []⟩,
    ⟨.mv (.l 2), none, none, []⟩,
    ⟨.fieldAddr 0 (.v 7), none, some ((.l 3), true), []⟩,
    ⟨.load false 1 (.l 4), none, some ((.l 3), true), []⟩,
    ⟨.len false (.l 5), none, some ((.l 3), true), []⟩,
    ⟨.mv (.v 5), none, some ((.l 3), true), []⟩,
    ⟨.len false (.l 7), none, some ((.l 3), true), []⟩,
    ⟨.bin .neq false (.l 6) (.l 8), none, some ((.l 3), true), []⟩,
    ⟨.pick (.l 3) (.l 9) (.c (.bool false)), none, none, []⟩,
    ⟨.mv (.l 10), none, none, []⟩,
    ⟨.fieldAddr 1 (.v 7), none, some ((.l 11), false), []⟩,
    ⟨.load false 1 (.l 12), none, some ((.l 11), false), []⟩,
    ⟨.bin .eql false (.l 13) (.c (.int .i64 2)), none, some ((.l 11), false), []⟩,
    ⟨.mv (.l 14), none, some ((.l 11), false), []⟩,
    ⟨.fieldAddr 0 (.v 7), none, some ((.l 15), true), []⟩,
    ⟨.load false 1 (.l 16), none, some ((.l 15), true), []⟩,
    ⟨.len false (.l 17), none, some ((.l 15), true), []⟩,
    ⟨.mv (.v 8), none, some ((.l 15), true), []⟩,
    ⟨.bin .neq false (.l 18) (.l 19), none, some ((.l 15), true), []⟩,
    ⟨.pick (.l 15) (.l 20) (.c (.bool false)), none, some ((.l 11), false), []⟩,
    ⟨.pick (.l 11) (.c (.bool true)) (.l 21), none, none, []⟩,
    ⟨.mv (.l 22), none, none, []⟩,
    ⟨.fieldAddr 1 (.v 7), none, some ((.l 23), false), []⟩,
    ⟨.load false 1 (.l 24), none, some ((.l 23), false), []⟩,
    ⟨.bin .eql false (.l 25) (.c (.int .i64 3)), none, some ((.l 23), false), []⟩,
    ⟨.mv (.l 26), none, some ((.l 23), false), []⟩,
    ⟨.fieldAddr 0 (.v 7), none, some ((.l 27), true), []⟩,
    ⟨.load false 1 (.l 28), none, some ((.l 27), true), []⟩,
    ⟨.len false (.l 29), none, some ((.l 27), true), []⟩,
    ⟨.mv (.v 8), none, some ((.l 27), true), []⟩,
    ⟨.bin .lss false (.l 30) (.l 31), none, some ((.l 27), true), []⟩,
    ⟨.pick (.l 27) (.l 32) (.c (.bool false)), none, some ((.l 23), false), []⟩,
    ⟨.pick (.l 23) (.c (.bool true)) (.l 33), none, none, []⟩,
    ⟨.mv (.l 34), none, none, []⟩,
    ⟨.fieldAddr 1 (.v 7), none, some ((.l 35), false), []⟩,
    ⟨.load false 1 (.l 36), none, some ((.l 35), false), []⟩,
    ⟨.bin .lss false (.l 37) (.c (.int .i64 1)), none, some ((.l 35), false), []⟩,
    ⟨.pick (.l 35) (.c (.bool true)) (.l 38), none, none, []⟩,
    ⟨.mv (.l 39), none, none, []⟩,
    ⟨.fieldAddr 1 (.v 7), none, some ((.l 40), false), []⟩,
    ⟨.load false 1 (.l 41), none, some ((.l 40), false), []⟩,
    ⟨.bin .gtr false (.l 42) (.c (.int .i64 3)), none, some ((.l 40), false), []⟩,
    ⟨.pick (.l 40) (.c (.bool true)) (.l 43), some 12, none, []⟩]) (
  .cond (.v 12) (
   .seq (
   .reg [⟨.mv (.c (.bool false)), some 3, none, []⟩]) (
   .ret)) (
   .skip))) (
  .seq (
  .seq (
  .reg [⟨.mv (.c (.int .i64 0)), some 9, none, []⟩]) (
  .block 0 (
   .loopS [4, 6, 7, 9] 4 (
    .seq (
    .seq (
    .reg [⟨.mv (.v 9), none, none, []⟩,
      ⟨.fieldAddr 0 (.v 7), none, none, []⟩,
      ⟨.load false 1 (.l 1), none, none, []⟩,
      ⟨.len false (.l 2), none, none, []⟩,
      ⟨.bin .lss false (.l 0) (.l 3), some 13, none, []⟩]) (
    .cond (.v 13) (
     .skip) (
     .exit 0))) (
    .seq (
    .block 1 (
     .seq (
     .reg [⟨.fieldAddr 0 (.v 7), none, none, []⟩,
       ⟨.load false 1 (.l 0), none, none, []⟩,
       ⟨.mv (.v 9), none, none, []⟩,
       ⟨.indexAddr 1 (.l 1) (.l 2), none, none, []⟩,
       ⟨.load false 1 (.l 3), none, none, []⟩,
       ⟨.len false (.l 4), none, none, []⟩,
       ⟨.mv (.l 5), some 10, none, []⟩]) (
     .seq (
     .reg [⟨.mv (.v 10), none, none, []⟩,
       ⟨.bin .eql false (.l 0) (.c (.int .i64 0)), none, none, []⟩,
       ⟨.mv (.l 1), none, none, []⟩,
       ⟨.mv (.v 10), none, some ((.l 2), false), []⟩,
       ⟨.mv (.v 6), none, some ((.l 2), false), []⟩,
       ⟨.bin .gtr false (.l 3) (.l 4), none, some ((.l 2), false), []⟩,
       ⟨.pick (.l 2) (.c (.bool true)) (.l 5), none, none, []⟩,
       ⟨.mv (.l 6), none, none, []⟩,
       ⟨.fieldAddr 0 (.v 7), none, some ((.l 7), false), []⟩,
       ⟨.load false 1 (.l 8), none, some ((.l 7), false), []⟩,
       ⟨.mv (.v 9), none, some ((.l 7), false), []⟩,
       ⟨.indexAddr 1 (.l 9) (.l 10), none, some ((.l 7), false), []⟩,
       ⟨.load false 1 (.l 11), none, some ((.l 7), false), []⟩,
       ⟨.mv (.v 10), none, some ((.l 7), false), []⟩,
       ⟨.bin .sub false (.l 13) (.c (.int .i64 1)), none, some ((.l 7), false), []⟩,
       ⟨.indexAddr 1 (.l 12) (.l 14), none, some ((.l 7), false), []⟩,
       ⟨.load false 1 (.l 15), none, some ((.l 7), false), []⟩,
       ⟨.bin .eql false (.l 16) (.c (.int .u8 0)), none, some ((.l 7), false), []⟩,
       ⟨.pick (.l 7) (.c (.bool true)) (.l 17), some 14, none, []⟩]) (
     .cond (.v 14) (
      .seq (
      .reg [⟨.mv (.c (.bool false)), some 3, none, []⟩]) (
      .ret)) (
      .skip))))) (
    .reg [⟨.mv (.v 9), none, none, []⟩,
      ⟨.bin .add false (.l 0) (.c (.int .i64 1)), none, none, []⟩,
      ⟨.mv (.l 1), some 9, none, []⟩])))))) (
  .seq (
  .reg [⟨.mv (.v 4), none, none, []⟩,
    ⟨.mv (.l 0), some 3, none, []⟩]) (
  .ret)))))))))⟩

def X6 : XFn :=
 ⟨73, [0, 1, 2, 3, 6, 7, 8, 9, 10, 11, 12, 34], 6, [(4, none)],
  .seq (
  .reg [⟨.box 0 (.v 0), some 3, none, []⟩,
    ⟨.mv (.c (.bool false)), some 4, none, []⟩]) (
  .seq (
  .reg [⟨.call 8 [] [(0, 0)] true, none, none, []⟩,
    ⟨.mv (.l 0), some 5, none, []⟩]) (
  .seq (
  .reg [⟨.load true 3 (.v 3), none, none, []⟩,
    ⟨.call 9 [(.l 0)] [(1, 1)] true, none, none, []⟩,
    ⟨.mv (.v 1), none, none, []⟩,
    ⟨.bin .rem false (.l 2) (.c (.int .u8 37)), none, none, []⟩,
    ⟨.conv .i64 (.l 3), none, none, []⟩,
    ⟨.bin .add false (.c (.int .i64 24)) (.l 4), none, none, []⟩,
    ⟨.mv (.l 1), some 6, none, []⟩,
    ⟨.mv (.l 5), some 7, none, []⟩]) (
  .seq (
  .reg [⟨.mv (.v 7), none, none, []⟩,
    ⟨.mv (.v 2), none, none, []⟩,
    ⟨.bin .rem false (.l 1) (.c (.int .u8 20)), none, none, []⟩,
    ⟨.conv .i64 (.l 2), none, none, []⟩,
    ⟨.bin .add false (.l 0) (.l 3), none, none, []⟩,
    ⟨.minmax false [(.l 4), (.c (.int .i64 60))], none, none, []⟩,
    ⟨.mv (.l 5), some 8, none, []⟩]) (
  .seq (
  .reg [⟨.mv (.v 6), none, none, []⟩,
    ⟨.mv (.v 7), none, none, []⟩,
    ⟨.call 11 [(.l 0), (.l 1)] [(2, 1), (0, 0), (0, 0)] true, none, none, []⟩,
    ⟨.mv (.v 6), none, none, []⟩,
    ⟨.mv (.v 8), none, none, []⟩,
    ⟨.call 11 [(.l 3), (.l 4)] [(3, 1), (0, 0), (0, 0)] true, none, none, []⟩,
    ⟨.alloc 4 [.nils, (.int .i64 0), (.int .i64 0)], some 9, none, []⟩,
    ⟨.alloc 5 [.nils, (.int .i64 0), (.int .i64 0)], some 10, none, []⟩,
    ⟨.store 3 (.l 6) (.l 2), none, none, []⟩,
    ⟨.store 3 (.l 7) (.l 5), none, none, []⟩]) (
  .seq (
  .seq (
  .reg [⟨.fieldAddr 2 (.v 9), none, none, []⟩,
    ⟨.load false 1 (.l 0), none, none, []⟩,
    ⟨.bin .neq false (.l 1) (.c (.int .i64 0)), some 11, none, []⟩]) (
  .cond (.v 11) (
   .seq (
   .reg [⟨.fieldAddr 2 (.v 9), none, none, []⟩,
     ⟨.load false 1 (.l 0), none, none, []⟩,
     ⟨.bin .eql false (.l 1) (.c (.int .i64 181)), none, none, []⟩,
     ⟨.mv (.l 2), none, none, []⟩,
     ⟨.fieldAddr 2 (.v 10), none, some ((.l 3), true), []⟩,
     ⟨.load false 1 (.l 4), none, some ((.l 3), true), []⟩,
     ⟨.bin .eql false (.l 5) (.c (.int .i64 0)), none, some ((.l 3), true), []⟩,
     ⟨.mv (.l 6), none, some ((.l 3), true), []⟩,
     ⟨.fieldAddr 2 (.v 10), none, some ((.l 7), false), []⟩,
     ⟨.load false 1 (.l 8), none, some ((.l 7), false), []⟩,
     ⟨.bin .eql false (.l 9) (.c (.int .i64 181)), none, some ((.l 7), false), []⟩,
     ⟨.pick (.l 7) (.c (.bool true)) (.l 10), none, some ((.l 3), true), []⟩,
     ⟨.pick (.l 3) (.l 11) (.c (.bool false)), none, none, []⟩,
     ⟨.mv (.l 12), none, none, []⟩,
     ⟨.mv (.v 5), none, some ((.l 13), true), []⟩,
     ⟨.pick (.l 13) (.l 14) (.c (.bool false)), none, none, []⟩,
     ⟨.mv (.l 15), some 4, none, []⟩]) (
   .ret)) (
   .skip))) (
  .seq (
  .reg [⟨.fieldAddr 2 (.v 10), none, none, []⟩,
    ⟨.load false 1 (.l 0), none, none, []⟩,
    ⟨.bin .eql false (.l 1) (.c (.int .i64 0)), none, none, []⟩,
    ⟨.mv (.l 2), none, none, []⟩,
    ⟨.fieldAddr 1 (.v 10), none, some ((.l 3), true), []⟩,
    ⟨.load false 1 (.l 4), none, some ((.l 3), true), []⟩,
    ⟨.fieldAddr 1 (.v 9), none, some ((.l 3), true), []⟩,
    ⟨.load false 1 (.l 6), none, some ((.l 3), true), []⟩,
    ⟨.bin .leq false (.l 5) (.l 7), none, some ((.l 3), true), []⟩,
    ⟨.pick (.l 3) (.l 8) (.c (.bool false)), none, none, []⟩,
    ⟨.mv (.l 9), none, none, []⟩,
    ⟨.fieldAddr 0 (.v 10), none, some ((.l 10), true), []⟩,
    ⟨.load false 1 (.l 11), none, some ((.l 10), true), []⟩,
    ⟨.len false (.l 12), none, some ((.l 10), true), []⟩,
    ⟨.fieldAddr 0 (.v 9), none, some ((.l 10), true), []⟩,
    ⟨.load false 1 (.l 14), none, some ((.l 10), true), []⟩,
    ⟨.len false (.l 15), none, some ((.l 10), true), []⟩,
    ⟨.bin .leq false (.l 13) (.l 16), none, some ((.l 10), true), []⟩,
    ⟨.pick (.l 10) (.l 17) (.c (.bool false)), none, none, []⟩,
    ⟨.mv (.l 18), none, none, []⟩,
    ⟨.mv (.v 5), none, some ((.l 19), true), []⟩,
    ⟨.pick (.l 19) (.l 20) (.c (.bool false)), none, none, []⟩,
    ⟨.mv (.l 21), some 4, none, []⟩]) (
  .ret)))))))⟩

def X7 : XFn :=
 ⟨81, [0, 1, 2, 3, 6, 7, 8, 9, 10, 11, 12, 25, 56], 6, [(4, none)],
  .seq (
  .reg [⟨.box 0 (.v 0), some 3, none, []⟩,
    ⟨.mv (.c (.bool false)), some 4, none, []⟩]) (
  .seq (
  .reg [⟨.call 8 [] [(0, 0)] true, none, none, []⟩,
    ⟨.mv (.l 0), some 5, none, []⟩]) (
  .seq (
  .reg [⟨.load true 3 (.v 3), none, none, []⟩,
    ⟨.call 9 [(.l 0)] [(1, 1)] true, none, none, []⟩,
    ⟨.mv (.v 1), none, none, []⟩,
    ⟨.bin .rem false (.l 2) (.c (.int .u8 37)), none, none, []⟩,
    ⟨.conv .i64 (.l 3), none, none, []⟩,
    ⟨.bin .add false (.c (.int .i64 24)) (.l 4), none, none, []⟩,
    ⟨.mv (.l 1), some 6, none, []⟩,
    ⟨.mv (.l 5), some 7, none, []⟩]) (
  .seq (
  .reg [⟨.mv (.v 6), none, none, []⟩,
    ⟨.mv (.v 7), none, none, []⟩,
    ⟨.call 11 [(.l 0), (.l 1)] [(2, 1), (0, 0), (0, 0)] true, none, none, []⟩,
    ⟨.alloc 3 [.nils, (.int .i64 0), (.int .i64 0)], some 8, none, []⟩,
    ⟨.store 3 (.l 3) (.l 2), none, none, []⟩]) (
  .seq (
  .seq (
  .reg [⟨.fieldAddr 2 (.v 8), none, none, []⟩,
    ⟨.load false 1 (.l 0), none, none, []⟩,
    ⟨.bin .neq false (.l 1) (.c (.int .i64 0)), some 11, none, []⟩]) (
  .cond (.v 11) (
   .seq (
   .reg [⟨.mv (.v 5), none, none, []⟩,
     ⟨.mv (.l 0), some 4, none, []⟩]) (
   .ret)) (
   .skip))) (
  .seq (
  .reg [⟨.mv (.v 6), none, none, []⟩,
    ⟨.mv (.v 2), none, none, []⟩,
    ⟨.conv .i64 (.l 1), none, none, []⟩,
    ⟨.mv (.v 6), none, none, []⟩,
    ⟨.len false (.l 3), none, none, []⟩,
    ⟨.bin .rem false (.l 2) (.l 4), none, none, []⟩,
    ⟨.bin .add false (.c (.int .i64 1)) (.l 5), none, none, []⟩,
    ⟨.slice false 1 (.l 0) none (some (.l 6)) none, none, none, []⟩,
    ⟨.mv (.l 7), some 9, none, []⟩]) (
  .seq (
  .reg [⟨.mv (.v 9), none, none, []⟩,
    ⟨.mv (.v 7), none, none, []⟩,
    ⟨.call 11 [(.l 0), (.l 1)] [(4, 1), (0, 0), (0, 0)] true, none, none, []⟩,
    ⟨.alloc 5 [.nils, (.int .i64 0), (.int .i64 0)], some 10, none, []⟩,
    ⟨.store 3 (.l 3) (.l 2), none, none, []⟩]) (
  .seq (
  .seq (
  .reg [⟨.fieldAddr 2 (.v 10), none, none, []⟩,
    ⟨.load false 1 (.l 0), none, none, []⟩,
    ⟨.bin .neq false (.l 1) (.c (.int .i64 0)), none, none, []⟩,
    ⟨.mv (.l 2), none, none, []⟩,
    ⟨.fieldAddr 1 (.v 10), none, some ((.l 3), false), []⟩,
    ⟨.load false 1 (.l 4), none, some ((.l 3), false), []⟩,
    ⟨.fieldAddr 1 (.v 8), none, some ((.l 3), false), []⟩,
    ⟨.load false 1 (.l 6), none, some ((.l 3), false), []⟩,
    ⟨.bin .gtr false (.l 5) (.l 7), none, some ((.l 3), false), []⟩,
    ⟨.pick (.l 3) (.c (.bool true)) (.l 8), none, none, []⟩,
    ⟨.mv (.l 9), none, none, []⟩,
    ⟨.fieldAddr 0 (.v 10), none, some ((.l 10), false), []⟩,
    ⟨.load false 1 (.l 11), none, some ((.l 10), false), []⟩,
    ⟨.len false (.l 12), none, some ((.l 10), false), []⟩,
    ⟨.fieldAddr 0 (.v 8), none, some ((.l 10), false), []⟩,
    ⟨.load false 1 (.l 14), none, some ((.l 10), false), []⟩,
    ⟨.len false (.l 15), none, some ((.l 10), false), []⟩,
    ⟨.bin .gtr false (.l 13) (.l 16), none, some ((.l 10), false), []⟩,
    ⟨.pick (.l 10) (.c (.bool true)) (.l 17), some 12, none, []⟩]) (
  .cond (.v 12) (
   .seq (
   .reg [⟨.mv (.c (.bool false)), some 4, none, []⟩]) (
   .ret)) (
   .skip))) (
  .seq (
  .reg [⟨.fieldAddr 1 (.v 8), none, none, []⟩,
    ⟨.load false 1 (.l 0), none, none, []⟩,
    ⟨.bin .eql false (.l 1) (.c (.int .i64 1)), none, none, []⟩,
    ⟨.mv (.l 2), none, none, []⟩,
    ⟨.fieldAddr 1 (.v 10), none, some ((.l 3), false), []⟩,
    ⟨.load false 1 (.l 4), none, some ((.l 3), false), []⟩,
    ⟨.fieldAddr 1 (.v 8), none, some ((.l 3), false), []⟩,
    ⟨.load false 1 (.l 6), none, some ((.l 3), false), []⟩,
    ⟨.bin .neq false (.l 5) (.l 7), none, some ((.l 3), false), []⟩,
    ⟨.pick (.l 3) (.c (.bool true)) (.l 8), none, none, []⟩,
    ⟨.mv (.l 9), none, none, []⟩,
    ⟨.fieldAddr 0 (.v 10), none, some ((.l 10), false), []⟩,
    ⟨.load false 1 (.l 11), none, some ((.l 10), false), []⟩,
    ⟨.fieldAddr 0 (.v 8), none, some ((.l 10), false), []⟩,
    ⟨.load false 1 (.l 13), none, some ((.l 10), false), []⟩,
    ⟨.fieldAddr 0 (.v 10), none, some ((.l 10), false), []⟩,
    ⟨.load false 1 (.l 15), none, some ((.l 10), false), []⟩,
    ⟨.len false (.l 16), none, some ((.l 10), false), []⟩,
    ⟨.slice false 1 (.l 14) none (some (.l 17)) none, none, some ((.l 10), false), []⟩,
    ⟨.call 15 [(.l 12), (.l 18)] [(0, 0)] false, none, some ((.l 10), false), []⟩,
    ⟨.pick (.l 10) (.c (.bool true)) (.l 19), none, none, []⟩,
    ⟨.mv (.l 20), none, none, []⟩,
    ⟨.mv (.v 5), none, some ((.l 21), true), []⟩,
    ⟨.pick (.l 21) (.l 22) (.c (.bool false)), none, none, []⟩,
    ⟨.mv (.l 23), some 4, none, []⟩]) (
  .ret)))))))))⟩

def X8 : XFn :=
 ⟨146, [0, 1, 2, 3, 4, 5, 6, 7, 8, 9, 11, 12, 13, 18], 25, [(0, none)],
  .seq (
  .reg [⟨.mv (.c (.bool false)), some 0, none, []⟩]) (
  .seq (
  .reg [⟨.mkarr 0 1 [(.int .u8 0)] [(0, (.c (.int .u8 1)))], none, none, []⟩,
    ⟨.mkarr 1 1 [(.int .u8 0), (.int .u8 0)] [(0, (.c (.int .u8 1))), (1, (.c (.int .u8 3)))], none, none, []⟩,
    ⟨.mkarr 2 1 [] [], none, none, []⟩,
    ⟨.mv (.l 0), some 1, none, []⟩,
    ⟨.mv (.l 1), some 2, none, []⟩,
    ⟨.mv (.l 2), some 3, none, []⟩]) (
  .seq (
  .seq (
  .reg [⟨.mv (.c (.int .i64 0)), some 4, none, []⟩]) (
  .block 0 (
   .loopS [1, 2, 3, 4] 25 (
    .seq (
    .seq (
    .reg [⟨.mv (.v 4), none, none, []⟩,
      ⟨.bin .lss false (.l 0) (.c (.int .i64 20)), some 13, none, []⟩]) (
    .cond (.v 13) (
     .skip) (
     .exit 0))) (
    .seq (
    .block 1 (
     .reg [⟨.mv (.v 3), none, none, []⟩,
       ⟨.mkarr 3 1 [(.int .u8 0)] [(0, (.c (.int .u8 1)))], none, none, []⟩,
       ⟨.append 4 1 1 1 (.l 0) (.l 1), none, none, []⟩,
       ⟨.mv (.l 2), some 3, none, []⟩])) (
    .reg [⟨.mv (.v 4), none, none, []⟩,
      ⟨.bin .add false (.l 0) (.c (.int .i64 1)), none, none, []⟩,
      ⟨.mv (.l 1), some 4, none, []⟩])))))) (
  .seq (
  .frz [(25, true), (26, true), (27, true)] (
  .mat 3 none 0 0 (
  .mat 2 none 0 0 (
  .mat 1 none 0 0 (
  .reg [⟨.mkarr 5 1 [] [], none, none, []⟩,
    ⟨.mv (.v 3), none, none, []⟩,
    ⟨.append 5 1 1 2 (.l 0) (.l 1), none, none, []⟩,
    ⟨.mkarr 7 1 [(.int .u8 0)] [(0, (.c (.int .u8 0)))], none, none, []⟩,
    ⟨.append 8 1 1 1 (.l 2) (.l 3), none, none, []⟩,
    ⟨.mv (.v 3), none, none, []⟩,
    ⟨.append 9 1 1 0 (.l 4) (.l 5), none, none, []⟩,
    ⟨.mv (.l 6), some 5, none, []⟩]))))) (
  .seq (
  .reg [⟨.mv (.v 1), none, none, []⟩,
    ⟨.mv (.v 2), none, none, []⟩,
    ⟨.lit 1 [.nils, .nils] [(0, (.l 0)), (1, (.l 1))], none, none, []⟩,
    ⟨.mv (.v 2), none, none, []⟩,
    ⟨.mv (.v 1), none, none, []⟩,
    ⟨.lit 1 [.nils, .nils] [(0, (.l 3)), (1, (.l 4))], none, none, []⟩,
    ⟨.lit 1 [.nils, .nils] [(0, (.l 2)), (1, (.l 5))], none, none, []⟩,
    ⟨.call 11 [(.l 6), (.c (.int .i64 24))] [(10, 1), (0, 0), (0, 0)] true, none, none, []⟩,
    ⟨.lit 1 [(.int .u8 0), (.int .u8 0), (.int .u8 0), (.int .u8 0), (.int .u8 0), (.int .u8 0)] [(0, (.c (.int .u8 1))), (1, (.c (.int .u8 0))), (2, (.c (.int .u8 0))), (3, (.c (.int .u8 0))), (4, (.c (.int .u8 1))), (5, (.c (.int .u8 3)))], none, none, []⟩,
    ⟨.lit 1 [(.int .u8 0), (.int .u8 0), (.int .u8 0), (.int .u8 0), (.int .u8 0)] [(0, (.c (.int .u8 1))), (1, (.c (.int .u8 3))), (2, (.c (.int .u8 0))), (3, (.c (.int .u8 0))), (4, (.c (.int .u8 1)))], none, none, []⟩,
    ⟨.lit 1 [.nils, .nils] [(0, (.l 8)), (1, (.l 9))], none, none, []⟩,
    ⟨.build [.nils, (.int .i64 0), (.int .i64 0)] [(0, 1, (.l 10)), (1, 1, (.c (.int .i64 1)))], none, none, []⟩,
    ⟨.call 10 [(.l 7), (.l 11)] [(0, 0)] true, none, none, []⟩,
    ⟨.mv (.l 12), some 6, none, []⟩]) (
  .seq (
  .reg [⟨.mv (.v 3), none, none, []⟩,
    ⟨.mv (.v 2), none, none, []⟩,
    ⟨.mv (.v 1), none, none, []⟩,
    ⟨.lit 1 [.nils, .nils, .nils] [(0, (.l 0)), (1, (.l 1)), (2, (.l 2))], none, none, []⟩,
    ⟨.lit 1 [.nils] [(0, (.l 3))], none, none, []⟩,
    ⟨.call 11 [(.l 4), (.c (.int .i64 24))] [(11, 1), (0, 0), (0, 0)] true, none, none, []⟩,
    ⟨.mv (.v 3), none, none, []⟩,
    ⟨.lit 1 [(.int .u8 0), (.int .u8 0), (.int .u8 0), (.int .u8 0)] [(0, (.c (.int .u8 0))), (1, (.c (.int .u8 0))), (2, (.c (.int .u8 1))), (3, (.c (.int .u8 3)))], none, none, []⟩,
    ⟨.lit 1 [(.int .u8 0), (.int .u8 0), (.int .u8 0), (.int .u8 0), (.int .u8 0)] [(0, (.c (.int .u8 0))), (1, (.c (.int .u8 0))), (2, (.c (.int .u8 0))), (3, (.c (.int .u8 0))), (4, (.c (.int .u8 1)))], none, none, []⟩,
    ⟨.lit 1 [.nils, .nils, .nils] [(0, (.l 6)), (1, (.l 7)), (2, (.l 8))], none, none, []⟩,
    ⟨.build [.nils, (.int .i64 0), (.int .i64 0)] [(0, 1, (.l 9)), (1, 1, (.c (.int .i64 2)))], none, none, []⟩,
    ⟨.call 10 [(.l 5), (.l 10)] [(0, 0)] true, none, none, []⟩,
    ⟨.mv (.l 11), some 7, none, []⟩]) (
  .seq (
  .frz [(5, true)] (
  .mat 5 none 0 0 (
  .reg [⟨.mv (.v 5), none, none, []⟩,
    ⟨.mv (.v 1), none, none, []⟩,
    ⟨.lit 1 [.nils, .nils] [(0, (.l 0)), (1, (.l 1))], none, none, []⟩,
    ⟨.lit 1 [.nils] [(0, (.l 2))], none, none, []⟩,
    ⟨.call 11 [(.l 3), (.c (.int .i64 24))] [(12, 1), (0, 0), (0, 0)] true, none, none, []⟩,
    ⟨.mv (.v 3), none, none, []⟩,
    ⟨.mkarr 13 1 [(.int .u8 0), (.int .u8 0)] [(0, (.c (.int .u8 0))), (1, (.c (.int .u8 0)))], none, none, []⟩,
    ⟨.mv (.v 3), none, none, []⟩,
    ⟨.appendF 13 1 1 (.l 6) (.l 7), none, none, []⟩,
    ⟨.lit 1 [(.int .u8 0), (.int .u8 0), (.int .u8 0), (.int .u8 0), (.int .u8 0)] [(0, (.c (.int .u8 0))), (1, (.c (.int .u8 0))), (2, (.c (.int .u8 0))), (3, (.c (.int .u8 0))), (4, (.c (.int .u8 1)))], none, none, []⟩,
    ⟨.lit 1 [.nils, .nils, .nils] [(0, (.l 5)), (1, (.l 8)), (2, (.l 9))], none, none, []⟩,
    ⟨.build [.nils, (.int .i64 0), (.int .i64 0)] [(0, 1, (.l 10)), (1, 1, (.c (.int .i64 3)))], none, none, []⟩,
    ⟨.call 10 [(.l 4), (.l 11)] [(0, 0)] true, none, none, []⟩,
    ⟨.mv (.l 12), some 8, none, []⟩]))) (
  .seq (
  .reg [⟨.call 11 [(.c .nils), (.c (.int .i64 24))] [(15, 1), (0, 0), (0, 0)] true, none, none, []⟩,
    ⟨.field false 2 1 (.l 0), none, none, []⟩,
    ⟨.bin .eql false (.l 1) (.c (.int .i64 200)), none, none, []⟩,
    ⟨.mv (.l 2), none, none, []⟩,
    ⟨.mv (.v 1), none, some ((.l 3), true), []⟩,
    ⟨.lit 1 [.nils] [(0, (.l 4))], none, some ((.l 3), true), []⟩,
    ⟨.mv (.v 1), none, some ((.l 3), true), []⟩,
    ⟨.mv (.v 2), none, some ((.l 3), true), []⟩,
    ⟨.lit 1 [.nils, .nils] [(0, (.l 6)), (1, (.l 7))], none, some ((.l 3), true), []⟩,
    ⟨.lit 1 [.nils, .nils] [(0, (.l 5)), (1, (.l 8))], none, some ((.l 3), true), []⟩,
    ⟨.call 11 [(.l 9), (.c (.int .i64 24))] [(16, 1), (0, 0), (0, 0)] true, none, some ((.l 3), true), []⟩,
    ⟨.field false 2 1 (.l 10), none, some ((.l 3), true), []⟩,
    ⟨.bin .eql false (.l 11) (.c (.int .i64 200)), none, some ((.l 3), true), []⟩,
    ⟨.pick (.l 3) (.l 12) (.c (.bool false)), none, none, []⟩,
    ⟨.mv (.l 13), none, none, []⟩,
    ⟨.lit 1 [(.int .u8 0)] [(0, (.c (.int .u8 0)))], none, some ((.l 14), true), []⟩,
    ⟨.lit 1 [.nils] [(0, (.l 15))], none, some ((.l 14), true), []⟩,
    ⟨.lit 1 [.nils] [(0, (.l 16))], none, some ((.l 14), true), []⟩,
    ⟨.call 11 [(.l 17), (.c (.int .i64 24))] [(17, 1), (0, 0), (0, 0)] true, none, some ((.l 14), true), []⟩,
    ⟨.field false 2 1 (.l 18), none, some ((.l 14), true), []⟩,
    ⟨.bin .eql false (.l 19) (.c (.int .i64 180)), none, some ((.l 14), true), []⟩,
    ⟨.pick (.l 14) (.l 20) (.c (.bool false)), none, none, []⟩,
    ⟨.mv (.l 21), none, none, []⟩,
    ⟨.call 11 [(.c .nils), (.c (.int .i64 23))] [(18, 1), (0, 0), (0, 0)] true, none, some ((.l 22), true), []⟩,
    ⟨.field false 2 1 (.l 23), none, some ((.l 22), true), []⟩,
    ⟨.bin .eql false (.l 24) (.c (.int .i64 1)), none, some ((.l 22), true), []⟩,
    ⟨.pick (.l 22) (.l 25) (.c (.bool false)), none, none, []⟩,
    ⟨.mv (.l 26), none, none, []⟩,
    ⟨.mkarr 19 1 [] [], none, some ((.l 27), true), []⟩,
    ⟨.mv (.v 3), none, some ((.l 27), true), []⟩,
    ⟨.append 19 1 1 2 (.l 28) (.l 29), none, some ((.l 27), true), []⟩,
    ⟨.mv (.v 3), none, some ((.l 27), true), []⟩,
    ⟨.appendF 19 1 1 (.l 30) (.l 31), none, some ((.l 27), true), []⟩,
    ⟨.lit 1 [.nils] [(0, (.l 32))], none, some ((.l 27), true), []⟩,
    ⟨.lit 1 [.nils] [(0, (.l 33))], none, some ((.l 27), true), []⟩,
    ⟨.call 11 [(.l 34), (.c (.int .i64 24))] [(22, 1), (0, 0), (0, 0)] true, none, some ((.l 27), true), []⟩,
    ⟨.field false 2 1 (.l 35), none, some ((.l 27), true), []⟩,
    ⟨.bin .eql false (.l 36) (.c (.int .i64 181)), none, some ((.l 27), true), []⟩,
    ⟨.pick (.l 27) (.l 37) (.c (.bool false)), none, none, []⟩,
    ⟨.mv (.l 38), some 9, none, []⟩]) (
  .seq (
  .reg [⟨.lit 1 [(.int .u8 0), (.int .u8 0), (.int .u8 0), (.int .u8 0), (.int .u8 0), (.int .u8 0)] [(0, (.c (.int .u8 1))), (1, (.c (.int .u8 0))), (2, (.c (.int .u8 0))), (3, (.c (.int .u8 0))), (4, (.c (.int .u8 1))), (5, (.c (.int .u8 3)))], none, none, []⟩,
    ⟨.lit 1 [.nils] [(0, (.l 0))], none, none, []⟩,
    ⟨.call 13 [(.l 1), (.c (.int .i64 1)), (.c (.int .i64 2))] [(23, 1), (0, 0)] true, none, none, []⟩,
    ⟨.mv (.l 2), none, none, []⟩,
    ⟨.extract (.l 3) 0, none, none, []⟩,
    ⟨.extract (.l 3) 1, none, none, []⟩,
    ⟨.mv (.l 4), none, none, []⟩,
    ⟨.mv (.l 5), some 10, none, []⟩]) (
  .seq (
  .reg [⟨.lit 1 [(.int .u8 0), (.int .u8 0), (.int .u8 0), (.int .u8 0), (.int .u8 0)] [(0, (.c (.int .u8 1))), (1, (.c (.int .u8 0))), (2, (.c (.int .u8 0))), (3, (.c (.int .u8 1))), (4, (.c (.int .u8 3)))], none, none, []⟩,
    ⟨.lit 1 [.nils] [(0, (.l 0))], none, none, []⟩,
    ⟨.call 13 [(.l 1), (.c (.int .i64 1)), (.c (.int .i64 2))] [(24, 1), (0, 0)] true, none, none, []⟩,
    ⟨.mv (.l 2), none, none, []⟩,
    ⟨.extract (.l 3) 0, none, none, []⟩,
    ⟨.extract (.l 3) 1, none, none, []⟩,
    ⟨.mv (.l 4), some 11, none, []⟩,
    ⟨.mv (.l 5), some 12, none, []⟩]) (
  .seq (
  .reg [⟨.mv (.v 6), none, none, []⟩,
    ⟨.mv (.l 0), none, none, []⟩,
    ⟨.mv (.v 7), none, some ((.l 1), true), []⟩,
    ⟨.pick (.l 1) (.l 2) (.c (.bool false)), none, none, []⟩,
    ⟨.mv (.l 3), none, none, []⟩,
    ⟨.mv (.v 8), none, some ((.l 4), true), []⟩,
    ⟨.pick (.l 4) (.l 5) (.c (.bool false)), none, none, []⟩,
    ⟨.mv (.l 6), none, none, []⟩,
    ⟨.mv (.v 9), none, some ((.l 7), true), []⟩,
    ⟨.pick (.l 7) (.l 8) (.c (.bool false)), none, none, []⟩,
    ⟨.mv (.l 9), none, none, []⟩,
    ⟨.mv (.v 10), none, some ((.l 10), true), []⟩,
    ⟨.bin .eql false (.l 11) (.c (.int .i64 200)), none, some ((.l 10), true), []⟩,
    ⟨.pick (.l 10) (.l 12) (.c (.bool false)), none, none, []⟩,
    ⟨.mv (.l 13), none, none, []⟩,
    ⟨.mv (.v 12), none, some ((.l 14), true), []⟩,
    ⟨.bin .eql false (.l 15) (.c (.int .i64 0)), none, some ((.l 14), true), []⟩,
    ⟨.pick (.l 14) (.l 16) (.c (.bool false)), none, none, []⟩,
    ⟨.mv (.l 17), none, none, []⟩,
    ⟨.mv (.v 11), none, some ((.l 18), true), []⟩,
    ⟨.mv (.v 1), none, some ((.l 18), true), []⟩,
    ⟨.mv (.v 2), none, some ((.l 18), true), []⟩,
    ⟨.lit 1 [.nils, .nils] [(0, (.l 20)), (1, (.l 21))], none, some ((.l 18), true), []⟩,
    ⟨.lit 1 [.nils] [(0, (.l 22))], none, some ((.l 18), true), []⟩,
    ⟨.call 14 [(.l 19), (.l 23)] [(0, 0)] true, none, some ((.l 18), true), []⟩,
    ⟨.pick (.l 18) (.l 24) (.c (.bool false)), none, none, []⟩,
    ⟨.mv (.l 25), some 0, none, []⟩]) (
  .ret)))))))))))⟩

theorem c3 : compFn Try.prog 3 = some { X3 with body := strip X3.body } := by kernel_rfl
theorem c4 : compFn Try.prog 4 = some { X4 with body := strip X4.body } := by kernel_rfl
theorem c5 : compFn Try.prog 5 = some { X5 with body := strip X5.body } := by kernel_rfl
theorem c6 : compFn Try.prog 6 = some { X6 with body := strip X6.body } := by kernel_rfl
theorem c7 : compFn Try.prog 7 = some { X7 with body := strip X7.body } := by kernel_rfl
theorem c8 : compFn Try.prog 8 = some { X8 with body := strip X8.body } := by kernel_rfl
end Go.Proofs.Ytfpkcjjgooigbaa.C
