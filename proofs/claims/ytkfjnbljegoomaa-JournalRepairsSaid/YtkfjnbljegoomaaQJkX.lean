/-
  Chapter 28: the laws, as the machine takes them (printed).
-/
import Derived.Test.YtkfjnbljegoomaaProg
import Derived.KernelRfl
import Derived.Test.YtkfjnbljegoomaaMg4
namespace Go.Proofs.Ytkfjnbljegoomaa.J
set_option linter.unusedSimpArgs false
set_option linter.unusedVariables false
set_option linter.unusedSectionVars false
open Go.Proofs.Ytkfjnbljegoomaa.Am
def X3 : XFn :=
 ⟨89, [0, 1, 4, 5, 6, 7, 8, 9, 10, 11, 12, 13, 14, 15, 16, 32], 11, [(2, none)],
  .seq (
  .reg [⟨.mv (.c (.bool false)), some 2, none, []⟩]) (
  .seq (
  .reg [⟨.call 9 [] [(0, 0)] true, none, none, []⟩,
    ⟨.mv (.l 0), some 3, none, []⟩]) (
  .seq (
  .reg [⟨.mv (.v 0), none, none, []⟩,
    ⟨.call 10 [(.l 0), (.c (.int .i64 6))] [(0, 3)] true, none, none, []⟩,
    ⟨.mv (.l 1), some 4, none, []⟩]) (
  .seq (
  .reg [⟨.mv (.v 4), none, none, []⟩,
    ⟨.call 11 [(.l 0)] [(1, 1)] true, none, none, []⟩,
    ⟨.mv (.l 1), some 5, none, []⟩]) (
  .seq (
  .seq (
  .reg [⟨.mv (.v 5), none, none, [2]⟩,
    ⟨.convStr (.l 0), none, none, [2]⟩,
    ⟨.mv (.v 4), none, none, []⟩,
    ⟨.call 12 [(.l 2)] [(2, 1)] false, none, none, []⟩,
    ⟨.convStr (.l 3), none, none, []⟩,
    ⟨.bin .neq false (.l 1) (.l 4), none, none, []⟩,
    ⟨.mv (.l 5), none, none, []⟩,
    ⟨.mv (.v 1), none, some ((.l 6), false), []⟩,
    ⟨.len false (.l 7), none, some ((.l 6), false), []⟩,
    ⟨.bin .gtr false (.l 8) (.c (.int .i64 80)), none, some ((.l 6), false), []⟩,
    ⟨.pick (.l 6) (.c (.bool true)) (.l 9), some 15, none, []⟩]) (
  .cond (.v 15) (
   .seq (
   .reg [⟨.mv (.v 5), none, none, [3]⟩,
     ⟨.convStr (.l 0), none, none, [3]⟩,
     ⟨.mv (.v 4), none, none, []⟩,
     ⟨.call 12 [(.l 2)] [(3, 1)] false, none, none, []⟩,
     ⟨.convStr (.l 3), none, none, []⟩,
     ⟨.bin .eql false (.l 1) (.l 4), none, none, []⟩,
     ⟨.mv (.l 5), none, none, []⟩,
     ⟨.mv (.v 3), none, some ((.l 6), true), []⟩,
     ⟨.pick (.l 6) (.l 7) (.c (.bool false)), none, none, []⟩,
     ⟨.mv (.l 8), some 2, none, []⟩]) (
   .ret)) (
   .skip))) (
  .seq (
  .reg [⟨.mv (.v 1), none, none, []⟩,
    ⟨.call 13 [(.l 0)] [(4, 3), (0, 0)] true, none, none, []⟩,
    ⟨.mv (.l 1), none, none, []⟩,
    ⟨.extract (.l 2) 0, none, none, []⟩,
    ⟨.extract (.l 2) 1, none, none, []⟩,
    ⟨.mv (.l 3), some 6, none, []⟩,
    ⟨.mv (.l 4), some 7, none, []⟩]) (
  .seq (
  .reg [⟨.mv (.v 1), none, none, []⟩,
    ⟨.call 14 [(.l 0)] [(5, 3), (0, 0)] true, none, none, []⟩,
    ⟨.mv (.l 1), none, none, []⟩,
    ⟨.extract (.l 2) 0, none, none, []⟩,
    ⟨.extract (.l 2) 1, none, none, []⟩,
    ⟨.mv (.l 3), some 8, none, []⟩,
    ⟨.mv (.l 4), some 9, none, []⟩]) (
  .seq (
  .reg [⟨.mkarr 6 1 [] [], none, none, []⟩,
    ⟨.mv (.v 5), none, none, []⟩,
    ⟨.append 6 1 1 2 (.l 0) (.l 1), none, none, []⟩,
    ⟨.mv (.l 2), some 10, none, []⟩]) (
  .seq (
  .reg [⟨.mv (.v 10), none, none, []⟩,
    ⟨.mv (.v 1), none, none, []⟩,
    ⟨.append 8 1 1 0 (.l 0) (.l 1), none, none, []⟩,
    ⟨.mv (.l 2), some 10, none, []⟩]) (
  .seq (
  .reg [⟨.mv (.v 10), none, none, []⟩,
    ⟨.call 13 [(.l 0)] [(9, 3), (0, 0)] true, none, none, []⟩,
    ⟨.mv (.l 1), none, none, []⟩,
    ⟨.extract (.l 2) 0, none, none, []⟩,
    ⟨.extract (.l 2) 1, none, none, []⟩,
    ⟨.mv (.l 3), some 11, none, []⟩,
    ⟨.mv (.l 4), some 12, none, []⟩]) (
  .seq (
  .reg [⟨.mv (.v 10), none, none, []⟩,
    ⟨.call 14 [(.l 0)] [(10, 3), (0, 0)] true, none, none, []⟩,
    ⟨.mv (.l 1), none, none, []⟩,
    ⟨.extract (.l 2) 0, none, none, []⟩,
    ⟨.extract (.l 2) 1, none, none, []⟩,
    ⟨.mv (.l 3), some 13, none, []⟩,
    ⟨.mv (.l 4), some 14, none, []⟩]) (
  .seq (
  .reg [⟨.mv (.v 3), none, none, []⟩,
    ⟨.mv (.l 0), none, none, []⟩,
    ⟨.mv (.v 6), none, some ((.l 1), true), []⟩,
    ⟨.mv (.v 8), none, some ((.l 1), true), []⟩,
    ⟨.call 15 [(.l 2), (.l 3)] [(0, 0)] true, none, some ((.l 1), true), []⟩,
    ⟨.pick (.l 1) (.l 4) (.c (.bool false)), none, none, []⟩,
    ⟨.mv (.l 5), none, none, []⟩,
    ⟨.mv (.v 7), none, some ((.l 6), true), []⟩,
    ⟨.mv (.v 9), none, some ((.l 6), true), []⟩,
    ⟨.bin .eql false (.l 7) (.l 8), none, some ((.l 6), true), []⟩,
    ⟨.pick (.l 6) (.l 9) (.c (.bool false)), none, none, []⟩,
    ⟨.mv (.l 10), none, none, []⟩,
    ⟨.mv (.v 11), none, some ((.l 11), true), []⟩,
    ⟨.mv (.v 13), none, some ((.l 11), true), []⟩,
    ⟨.call 15 [(.l 12), (.l 13)] [(0, 0)] true, none, some ((.l 11), true), []⟩,
    ⟨.pick (.l 11) (.l 14) (.c (.bool false)), none, none, []⟩,
    ⟨.mv (.l 15), none, none, []⟩,
    ⟨.mv (.v 12), none, some ((.l 16), true), []⟩,
    ⟨.mv (.v 14), none, some ((.l 16), true), []⟩,
    ⟨.bin .eql false (.l 17) (.l 18), none, some ((.l 16), true), []⟩,
    ⟨.pick (.l 16) (.l 19) (.c (.bool false)), none, none, []⟩,
    ⟨.mv (.l 20), some 2, none, []⟩]) (
  .ret))))))))))))⟩

def X4 : XFn :=
 ⟨105, [0, 2, 3, 4, 5, 6, 7, 8, 9, 10, 42], 4, [(1, none)],
  .seq (
  .reg [⟨.mv (.c (.bool false)), some 1, none, []⟩]) (
  .seq (
  .reg [⟨.call 9 [] [(0, 0)] true, none, none, []⟩,
    ⟨.mv (.l 0), some 2, none, []⟩]) (
  .seq (
  .reg [⟨.mv (.v 0), none, none, []⟩,
    ⟨.call 10 [(.l 0), (.c (.int .i64 10))] [(0, 3)] true, none, none, []⟩,
    ⟨.mv (.l 1), some 3, none, []⟩]) (
  .seq (
  .reg [⟨.mv (.v 3), none, none, []⟩,
    ⟨.call 11 [(.l 0)] [(1, 1)] true, none, none, []⟩,
    ⟨.mv (.l 1), some 4, none, []⟩]) (
  .seq (
  .reg [⟨.mv (.v 4), none, none, []⟩,
    ⟨.call 13 [(.l 0)] [(2, 3), (0, 0)] true, none, none, []⟩,
    ⟨.mv (.l 1), none, none, []⟩,
    ⟨.extract (.l 2) 0, none, none, []⟩,
    ⟨.extract (.l 2) 1, none, none, []⟩,
    ⟨.mv (.l 3), some 5, none, []⟩,
    ⟨.mv (.l 4), some 6, none, []⟩]) (
  .seq (
  .seq (
  .reg [⟨.mv (.v 5), none, none, []⟩,
    ⟨.mv (.v 3), none, none, []⟩,
    ⟨.call 15 [(.l 0), (.l 1)] [(0, 0)] true, none, none, []⟩,
    ⟨.un .not (.l 2), none, none, []⟩,
    ⟨.mv (.l 3), none, none, []⟩,
    ⟨.mv (.v 6), none, some ((.l 4), false), []⟩,
    ⟨.mv (.v 4), none, some ((.l 4), false), []⟩,
    ⟨.len false (.l 6), none, some ((.l 4), false), []⟩,
    ⟨.bin .neq false (.l 5) (.l 7), none, some ((.l 4), false), []⟩,
    ⟨.pick (.l 4) (.c (.bool true)) (.l 8), none, none, []⟩,
    ⟨.mv (.l 9), none, none, []⟩,
    ⟨.mv (.v 6), none, some ((.l 10), false), []⟩,
    ⟨.mv (.v 3), none, some ((.l 10), false), []⟩,
    ⟨.len false (.l 12), none, some ((.l 10), false), []⟩,
    ⟨.bin .mul false (.c (.int .i64 11)) (.l 13), none, some ((.l 10), false), []⟩,
    ⟨.bin .neq false (.l 11) (.l 14), none, some ((.l 10), false), []⟩,
    ⟨.pick (.l 10) (.c (.bool true)) (.l 15), none, none, []⟩,
    ⟨.mv (.l 16), none, none, []⟩,
    ⟨.mv (.v 3), none, some ((.l 17), false), []⟩,
    ⟨.len false (.l 18), none, some ((.l 17), false), []⟩,
    ⟨.bin .eql false (.l 19) (.c (.int .i64 0)), none, some ((.l 17), false), []⟩,
    ⟨.pick (.l 17) (.c (.bool true)) (.l 20), some 10, none, []⟩]) (
  .cond (.v 10) (
   .seq (
   .reg [⟨.mv (.v 5), none, none, []⟩,
     ⟨.mv (.v 3), none, none, []⟩,
     ⟨.call 15 [(.l 0), (.l 1)] [(0, 0)] true, none, none, []⟩,
     ⟨.mv (.l 2), none, none, []⟩,
     ⟨.mv (.v 6), none, some ((.l 3), true), []⟩,
     ⟨.mv (.v 4), none, some ((.l 3), true), []⟩,
     ⟨.len false (.l 5), none, some ((.l 3), true), []⟩,
     ⟨.bin .eql false (.l 4) (.l 6), none, some ((.l 3), true), []⟩,
     ⟨.pick (.l 3) (.l 7) (.c (.bool false)), none, none, []⟩,
     ⟨.mv (.l 8), none, none, []⟩,
     ⟨.mv (.v 6), none, some ((.l 9), true), []⟩,
     ⟨.mv (.v 3), none, some ((.l 9), true), []⟩,
     ⟨.len false (.l 11), none, some ((.l 9), true), []⟩,
     ⟨.bin .mul false (.c (.int .i64 11)) (.l 12), none, some ((.l 9), true), []⟩,
     ⟨.bin .eql false (.l 10) (.l 13), none, some ((.l 9), true), []⟩,
     ⟨.pick (.l 9) (.l 14) (.c (.bool false)), none, none, []⟩,
     ⟨.mv (.l 15), none, none, []⟩,
     ⟨.mv (.v 2), none, some ((.l 16), true), []⟩,
     ⟨.pick (.l 16) (.l 17) (.c (.bool false)), none, none, []⟩,
     ⟨.mv (.l 18), some 1, none, []⟩]) (
   .ret)) (
   .skip))) (
  .seq (
  .reg [⟨.mv (.v 4), none, none, []⟩,
    ⟨.mv (.v 3), none, none, []⟩,
    ⟨.len false (.l 1), none, none, []⟩,
    ⟨.bin .sub false (.l 2) (.c (.int .i64 1)), none, none, []⟩,
    ⟨.bin .mul false (.c (.int .i64 11)) (.l 3), none, none, []⟩,
    ⟨.slice false 1 (.l 0) none (some (.l 4)) none, none, none, []⟩,
    ⟨.mv (.l 5), some 7, none, []⟩]) (
  .seq (
  .reg [⟨.mv (.v 4), none, none, []⟩,
    ⟨.mv (.v 4), none, none, []⟩,
    ⟨.len false (.l 1), none, none, []⟩,
    ⟨.bin .sub false (.l 2) (.c (.int .i64 1)), none, none, []⟩,
    ⟨.indexAddr 1 (.l 0) (.l 3), none, none, []⟩,
    ⟨.load false 1 (.l 4), none, none, []⟩,
    ⟨.mv (.l 5), some 8, none, []⟩]) (
  .seq (
  .reg [⟨.mv (.v 7), none, none, []⟩,
    ⟨.build [(.int .i64 0), (.int .i64 0), (.int .i64 0)] [(0, 1, (.c (.int .i64 5))), (1, 1, (.c (.int .i64 7)))], none, none, []⟩,
    ⟨.call 16 [(.l 0), (.l 1)] [(3, 1)] true, none, none, []⟩,
    ⟨.mv (.l 2), some 9, none, []⟩]) (
  .seq (
  .reg [⟨.mv (.v 2), none, none, []⟩,
    ⟨.mv (.l 0), none, none, []⟩,
    ⟨.mv (.v 9), none, some ((.l 1), true), []⟩,
    ⟨.len false (.l 2), none, some ((.l 1), true), []⟩,
    ⟨.mv (.v 4), none, some ((.l 1), true), []⟩,
    ⟨.len false (.l 4), none, some ((.l 1), true), []⟩,
    ⟨.bin .eql false (.l 3) (.l 5), none, some ((.l 1), true), []⟩,
    ⟨.pick (.l 1) (.l 6) (.c (.bool false)), none, none, []⟩,
    ⟨.mv (.l 7), none, none, []⟩,
    ⟨.mv (.v 4), none, some ((.l 8), true), []⟩,
    ⟨.mv (.v 4), none, some ((.l 8), true), []⟩,
    ⟨.len false (.l 10), none, some ((.l 8), true), []⟩,
    ⟨.bin .sub false (.l 11) (.c (.int .i64 1)), none, some ((.l 8), true), []⟩,
    ⟨.indexAddr 1 (.l 9) (.l 12), none, some ((.l 8), true), []⟩,
    ⟨.load false 1 (.l 13), none, some ((.l 8), true), []⟩,
    ⟨.mv (.v 8), none, some ((.l 8), true), []⟩,
    ⟨.bin .eql false (.l 14) (.l 15), none, some ((.l 8), true), []⟩,
    ⟨.pick (.l 8) (.l 16) (.c (.bool false)), none, none, []⟩,
    ⟨.mv (.l 17), none, none, []⟩,
    ⟨.mv (.v 9), none, some ((.l 18), true), []⟩,
    ⟨.mv (.v 7), none, some ((.l 18), true), []⟩,
    ⟨.len false (.l 20), none, some ((.l 18), true), []⟩,
    ⟨.slice false 1 (.l 19) none (some (.l 21)) none, none, some ((.l 18), true), []⟩,
    ⟨.convStr (.l 22), none, some ((.l 18), true), []⟩,
    ⟨.mv (.v 7), none, some ((.l 18), true), []⟩,
    ⟨.convStr (.l 24), none, some ((.l 18), true), []⟩,
    ⟨.bin .eql false (.l 23) (.l 25), none, some ((.l 18), true), []⟩,
    ⟨.pick (.l 18) (.l 26) (.c (.bool false)), none, none, []⟩,
    ⟨.mv (.l 27), some 1, none, []⟩]) (
  .ret))))))))))⟩

def X5 : XFn :=
 ⟨51, [0, 1, 4, 5, 6, 7, 8, 9, 10, 21], 3, [(2, none)],
  .seq (
  .reg [⟨.mv (.c (.bool false)), some 2, none, []⟩]) (
  .seq (
  .reg [⟨.call 9 [] [(0, 0)] true, none, none, []⟩,
    ⟨.mv (.l 0), some 3, none, []⟩]) (
  .seq (
  .reg [⟨.mv (.v 0), none, none, []⟩,
    ⟨.call 10 [(.l 0), (.c (.int .i64 10))] [(0, 3)] true, none, none, []⟩,
    ⟨.mv (.l 1), some 4, none, []⟩]) (
  .seq (
  .reg [⟨.mv (.v 4), none, none, []⟩,
    ⟨.call 11 [(.l 0)] [(1, 1)] true, none, none, []⟩,
    ⟨.mv (.l 1), some 5, none, []⟩]) (
  .seq (
  .seq (
  .reg [⟨.mv (.v 5), none, none, []⟩,
    ⟨.len false (.l 0), none, none, []⟩,
    ⟨.mv (.v 4), none, none, []⟩,
    ⟨.len false (.l 2), none, none, []⟩,
    ⟨.bin .mul false (.c (.int .i64 11)) (.l 3), none, none, []⟩,
    ⟨.bin .neq false (.l 1) (.l 4), some 9, none, []⟩]) (
  .cond (.v 9) (
   .seq (
   .reg [⟨.mv (.c (.bool false)), some 2, none, []⟩]) (
   .ret)) (
   .skip))) (
  .seq (
  .reg [⟨.mv (.v 1), none, none, []⟩,
    ⟨.conv .i64 (.l 0), none, none, []⟩,
    ⟨.mv (.v 5), none, none, []⟩,
    ⟨.len false (.l 2), none, none, []⟩,
    ⟨.bin .add false (.l 3) (.c (.int .i64 1)), none, none, []⟩,
    ⟨.bin .rem false (.l 1) (.l 4), none, none, []⟩,
    ⟨.mv (.l 5), some 6, none, []⟩]) (
  .seq (
  .reg [⟨.mv (.v 5), none, none, []⟩,
    ⟨.mv (.v 6), none, none, []⟩,
    ⟨.slice false 1 (.l 0) none (some (.l 1)) none, none, none, []⟩,
    ⟨.call 13 [(.l 2)] [(2, 3), (0, 0)] true, none, none, []⟩,
    ⟨.mv (.l 3), none, none, []⟩,
    ⟨.extract (.l 4) 0, none, none, []⟩,
    ⟨.extract (.l 4) 1, none, none, []⟩,
    ⟨.mv (.l 5), some 7, none, []⟩,
    ⟨.mv (.l 6), some 8, none, []⟩]) (
  .seq (
  .reg [⟨.mv (.v 3), none, none, []⟩,
    ⟨.mv (.l 0), none, none, []⟩,
    ⟨.mv (.v 7), none, some ((.l 1), true), []⟩,
    ⟨.mv (.v 4), none, some ((.l 1), true), []⟩,
    ⟨.mv (.v 6), none, some ((.l 1), true), []⟩,
    ⟨.bin .quo false (.l 4) (.c (.int .i64 11)), none, some ((.l 1), true), []⟩,
    ⟨.slice false 3 (.l 3) none (some (.l 5)) none, none, some ((.l 1), true), []⟩,
    ⟨.call 15 [(.l 2), (.l 6)] [(0, 0)] true, none, some ((.l 1), true), []⟩,
    ⟨.pick (.l 1) (.l 7) (.c (.bool false)), none, none, []⟩,
    ⟨.mv (.l 8), none, none, []⟩,
    ⟨.mv (.v 8), none, some ((.l 9), true), []⟩,
    ⟨.mv (.v 6), none, some ((.l 9), true), []⟩,
    ⟨.bin .quo false (.l 11) (.c (.int .i64 11)), none, some ((.l 9), true), []⟩,
    ⟨.bin .mul false (.l 12) (.c (.int .i64 11)), none, some ((.l 9), true), []⟩,
    ⟨.bin .eql false (.l 10) (.l 13), none, some ((.l 9), true), []⟩,
    ⟨.pick (.l 9) (.l 14) (.c (.bool false)), none, none, []⟩,
    ⟨.mv (.l 15), some 2, none, []⟩]) (
  .ret))))))))⟩

def X6 : XFn :=
 ⟨100, [0, 1, 2, 5, 6, 7, 8, 9, 10, 11, 12, 13, 24, 27, 49, 71], 6, [(4, none)],
  .seq (
  .reg [⟨.boxA 0 (.v 2), some 3, none, []⟩,
    ⟨.mv (.c (.bool false)), some 4, none, []⟩]) (
  .seq (
  .reg [⟨.call 9 [] [(0, 0)] true, none, none, []⟩,
    ⟨.mv (.l 0), some 5, none, []⟩]) (
  .seq (
  .reg [⟨.mv (.v 0), none, none, []⟩,
    ⟨.call 10 [(.l 0), (.c (.int .i64 10))] [(1, 3)] true, none, none, []⟩,
    ⟨.mv (.l 1), some 6, none, []⟩]) (
  .seq (
  .reg [⟨.mv (.v 6), none, none, []⟩,
    ⟨.call 11 [(.l 0)] [(2, 1)] true, none, none, []⟩,
    ⟨.mv (.l 1), some 7, none, []⟩]) (
  .seq (
  .seq (
  .reg [⟨.mv (.v 7), none, none, []⟩,
    ⟨.len false (.l 0), none, none, []⟩,
    ⟨.mv (.v 6), none, none, []⟩,
    ⟨.len false (.l 2), none, none, []⟩,
    ⟨.bin .mul false (.c (.int .i64 11)) (.l 3), none, none, []⟩,
    ⟨.bin .neq false (.l 1) (.l 4), some 12, none, []⟩]) (
  .cond (.v 12) (
   .seq (
   .reg [⟨.mv (.c (.bool false)), some 4, none, []⟩]) (
   .ret)) (
   .skip))) (
  .seq (
  .seq (
  .reg [⟨.mv (.v 7), none, none, []⟩,
    ⟨.len false (.l 0), none, none, []⟩,
    ⟨.bin .eql false (.l 1) (.c (.int .i64 0)), some 13, none, []⟩]) (
  .cond (.v 13) (
   .seq (
   .reg [⟨.mv (.v 5), none, none, []⟩,
     ⟨.mv (.l 0), some 4, none, []⟩]) (
   .ret)) (
   .skip))) (
  .seq (
  .reg [⟨.mv (.v 1), none, none, []⟩,
    ⟨.conv .i64 (.l 0), none, none, []⟩,
    ⟨.mv (.v 7), none, none, []⟩,
    ⟨.len false (.l 2), none, none, []⟩,
    ⟨.bin .rem false (.l 1) (.l 3), none, none, []⟩,
    ⟨.mv (.l 4), some 8, none, []⟩]) (
  .seq (
  .reg [⟨.mkarr 3 1 [] [], none, none, []⟩,
    ⟨.mv (.v 7), none, none, []⟩,
    ⟨.append 3 1 1 2 (.l 0) (.l 1), none, none, []⟩,
    ⟨.mv (.l 2), some 9, none, []⟩]) (
  .seq (
  .reg [⟨.mv (.v 9), none, none, []⟩,
    ⟨.mv (.v 8), none, none, []⟩,
    ⟨.mv (.v 9), none, none, []⟩,
    ⟨.mv (.v 8), none, none, []⟩,
    ⟨.indexAddr 1 (.l 2) (.l 3), none, none, []⟩,
    ⟨.load false 1 (.l 4), none, none, []⟩,
    ⟨.indexAddrA 2 1 (.v 3) (.c (.int .i64 0)), none, none, []⟩,
    ⟨.load false 1 (.l 6), none, none, []⟩,
    ⟨.bin .xor false (.l 5) (.l 7), none, none, []⟩,
    ⟨.indexAddr 1 (.l 0) (.l 1), none, none, []⟩,
    ⟨.store 1 (.l 9) (.l 8), none, none, []⟩]) (
  .seq (
  .seq (
  .reg [⟨.mv (.v 8), none, none, []⟩,
    ⟨.bin .rem false (.l 0) (.c (.int .i64 11)), none, none, []⟩,
    ⟨.bin .lss false (.l 1) (.c (.int .i64 10)), some 14, none, []⟩]) (
  .cond (.v 14) (
   .reg [⟨.mv (.v 9), none, none, []⟩,
     ⟨.mv (.v 8), none, none, []⟩,
     ⟨.bin .add false (.l 1) (.c (.int .i64 1)), none, none, []⟩,
     ⟨.mv (.v 9), none, none, []⟩,
     ⟨.mv (.v 8), none, none, []⟩,
     ⟨.bin .add false (.l 4) (.c (.int .i64 1)), none, none, []⟩,
     ⟨.indexAddr 1 (.l 3) (.l 5), none, none, []⟩,
     ⟨.load false 1 (.l 6), none, none, []⟩,
     ⟨.indexAddrA 2 1 (.v 3) (.c (.int .i64 1)), none, none, []⟩,
     ⟨.load false 1 (.l 8), none, none, []⟩,
     ⟨.bin .xor false (.l 7) (.l 9), none, none, []⟩,
     ⟨.indexAddr 1 (.l 0) (.l 2), none, none, []⟩,
     ⟨.store 1 (.l 11) (.l 10), none, none, []⟩]) (
   .skip))) (
  .seq (
  .reg [⟨.mv (.v 9), none, none, []⟩,
    ⟨.call 13 [(.l 0)] [(5, 3), (0, 0)] true, none, none, []⟩,
    ⟨.mv (.l 1), none, none, []⟩,
    ⟨.extract (.l 2) 0, none, none, []⟩,
    ⟨.extract (.l 2) 1, none, none, []⟩,
    ⟨.mv (.l 3), some 10, none, []⟩,
    ⟨.mv (.l 4), some 11, none, []⟩]) (
  .seq (
  .seq (
  .reg [⟨.mv (.v 9), none, none, []⟩,
    ⟨.convStr (.l 0), none, none, []⟩,
    ⟨.mv (.v 7), none, none, []⟩,
    ⟨.convStr (.l 2), none, none, []⟩,
    ⟨.bin .eql false (.l 1) (.l 3), some 15, none, []⟩]) (
  .cond (.v 15) (
   .seq (
   .reg [⟨.mv (.v 5), none, none, []⟩,
     ⟨.mv (.l 0), none, none, []⟩,
     ⟨.mv (.v 10), none, some ((.l 1), true), []⟩,
     ⟨.mv (.v 6), none, some ((.l 1), true), []⟩,
     ⟨.call 15 [(.l 2), (.l 3)] [(0, 0)] true, none, some ((.l 1), true), []⟩,
     ⟨.pick (.l 1) (.l 4) (.c (.bool false)), none, none, []⟩,
     ⟨.mv (.l 5), none, none, []⟩,
     ⟨.mv (.v 11), none, some ((.l 6), true), []⟩,
     ⟨.mv (.v 7), none, some ((.l 6), true), []⟩,
     ⟨.len false (.l 8), none, some ((.l 6), true), []⟩,
     ⟨.bin .eql false (.l 7) (.l 9), none, some ((.l 6), true), []⟩,
     ⟨.pick (.l 6) (.l 10) (.c (.bool false)), none, none, []⟩,
     ⟨.mv (.l 11), some 4, none, []⟩]) (
   .ret)) (
   .skip))) (
  .seq (
  .reg [⟨.mv (.v 5), none, none, []⟩,
    ⟨.mv (.l 0), none, none, []⟩,
    ⟨.mv (.v 10), none, some ((.l 1), true), []⟩,
    ⟨.mv (.v 6), none, some ((.l 1), true), []⟩,
    ⟨.mv (.v 8), none, some ((.l 1), true), []⟩,
    ⟨.bin .quo false (.l 4) (.c (.int .i64 11)), none, some ((.l 1), true), []⟩,
    ⟨.slice false 3 (.l 3) none (some (.l 5)) none, none, some ((.l 1), true), []⟩,
    ⟨.call 15 [(.l 2), (.l 6)] [(0, 0)] true, none, some ((.l 1), true), []⟩,
    ⟨.pick (.l 1) (.l 7) (.c (.bool false)), none, none, []⟩,
    ⟨.mv (.l 8), none, none, []⟩,
    ⟨.mv (.v 11), none, some ((.l 9), true), []⟩,
    ⟨.mv (.v 8), none, some ((.l 9), true), []⟩,
    ⟨.bin .quo false (.l 11) (.c (.int .i64 11)), none, some ((.l 9), true), []⟩,
    ⟨.bin .mul false (.l 12) (.c (.int .i64 11)), none, some ((.l 9), true), []⟩,
    ⟨.bin .eql false (.l 10) (.l 13), none, some ((.l 9), true), []⟩,
    ⟨.pick (.l 9) (.l 14) (.c (.bool false)), none, none, []⟩,
    ⟨.mv (.l 15), some 4, none, []⟩]) (
  .ret)))))))))))))⟩

def X7 : XFn :=
 ⟨101, [0, 1, 3, 4, 5, 6, 7, 8, 9, 10, 11, 12, 13, 24, 27, 43, 49], 6, [(3, none)],
  .seq (
  .reg [⟨.boxA 0 (.v 1), some 2, none, []⟩,
    ⟨.mv (.c (.bool false)), some 3, none, []⟩]) (
  .seq (
  .reg [⟨.call 9 [] [(0, 0)] true, none, none, []⟩,
    ⟨.mv (.l 0), some 4, none, []⟩]) (
  .seq (
  .reg [⟨.mv (.v 0), none, none, []⟩,
    ⟨.call 10 [(.l 0), (.c (.int .i64 10))] [(1, 3)] true, none, none, []⟩,
    ⟨.mv (.l 1), some 5, none, []⟩]) (
  .seq (
  .reg [⟨.mv (.v 5), none, none, []⟩,
    ⟨.call 11 [(.l 0)] [(2, 1)] true, none, none, []⟩,
    ⟨.mv (.l 1), some 6, none, []⟩]) (
  .seq (
  .seq (
  .reg [⟨.mv (.v 6), none, none, []⟩,
    ⟨.len false (.l 0), none, none, []⟩,
    ⟨.mv (.v 5), none, none, []⟩,
    ⟨.len false (.l 2), none, none, []⟩,
    ⟨.bin .mul false (.c (.int .i64 11)) (.l 3), none, none, []⟩,
    ⟨.bin .neq false (.l 1) (.l 4), some 13, none, []⟩]) (
  .cond (.v 13) (
   .seq (
   .reg [⟨.mv (.c (.bool false)), some 3, none, []⟩]) (
   .ret)) (
   .skip))) (
  .seq (
  .seq (
  .reg [⟨.mv (.v 5), none, none, []⟩,
    ⟨.len false (.l 0), none, none, []⟩,
    ⟨.bin .lss false (.l 1) (.c (.int .i64 2)), some 14, none, []⟩]) (
  .cond (.v 14) (
   .seq (
   .reg [⟨.mv (.v 4), none, none, []⟩,
     ⟨.mv (.l 0), some 3, none, []⟩]) (
   .ret)) (
   .skip))) (
  .seq (
  .reg [⟨.indexAddrA 2 1 (.v 2) (.c (.int .i64 0)), none, none, []⟩,
    ⟨.load false 1 (.l 0), none, none, []⟩,
    ⟨.conv .i64 (.l 1), none, none, []⟩,
    ⟨.mv (.v 5), none, none, []⟩,
    ⟨.len false (.l 3), none, none, []⟩,
    ⟨.bin .rem false (.l 2) (.l 4), none, none, []⟩,
    ⟨.mv (.l 5), some 7, none, []⟩]) (
  .seq (
  .reg [⟨.indexAddrA 2 1 (.v 2) (.c (.int .i64 1)), none, none, []⟩,
    ⟨.load false 1 (.l 0), none, none, []⟩,
    ⟨.conv .i64 (.l 1), none, none, []⟩,
    ⟨.mv (.v 5), none, none, []⟩,
    ⟨.len false (.l 3), none, none, []⟩,
    ⟨.bin .rem false (.l 2) (.l 4), none, none, []⟩,
    ⟨.mv (.l 5), some 8, none, []⟩]) (
  .seq (
  .seq (
  .reg [⟨.mv (.v 7), none, none, []⟩,
    ⟨.mv (.v 8), none, none, []⟩,
    ⟨.bin .eql false (.l 0) (.l 1), some 15, none, []⟩]) (
  .cond (.v 15) (
   .seq (
   .reg [⟨.mv (.v 4), none, none, []⟩,
     ⟨.mv (.l 0), some 3, none, []⟩]) (
   .ret)) (
   .skip))) (
  .seq (
  .reg [⟨.mkarr 3 1 [] [], none, none, []⟩,
    ⟨.mv (.v 6), none, none, []⟩,
    ⟨.append 3 1 1 2 (.l 0) (.l 1), none, none, []⟩,
    ⟨.mv (.l 2), some 9, none, []⟩]) (
  .seq (
  .seq (
  .reg [⟨.mv (.c (.int .i64 0)), some 10, none, []⟩]) (
  .block 0 (
   .loopS [4, 5, 6, 7, 8, 9, 10] 6 (
    .seq (
    .seq (
    .reg [⟨.mv (.v 10), none, none, []⟩,
      ⟨.bin .lss false (.l 0) (.c (.int .i64 11)), some 16, none, []⟩]) (
    .cond (.v 16) (
     .skip) (
     .exit 0))) (
    .seq (
    .block 1 (
     .seq (
     .reg [⟨.mv (.v 9), none, none, []⟩,
       ⟨.mv (.v 7), none, none, []⟩,
       ⟨.bin .mul false (.c (.int .i64 11)) (.l 1), none, none, []⟩,
       ⟨.mv (.v 10), none, none, []⟩,
       ⟨.bin .add false (.l 2) (.l 3), none, none, []⟩,
       ⟨.mv (.v 6), none, none, []⟩,
       ⟨.mv (.v 8), none, none, []⟩,
       ⟨.bin .mul false (.c (.int .i64 11)) (.l 6), none, none, []⟩,
       ⟨.mv (.v 10), none, none, []⟩,
       ⟨.bin .add false (.l 7) (.l 8), none, none, []⟩,
       ⟨.indexAddr 1 (.l 5) (.l 9), none, none, []⟩,
       ⟨.load false 1 (.l 10), none, none, []⟩,
       ⟨.indexAddr 1 (.l 0) (.l 4), none, none, []⟩,
       ⟨.store 1 (.l 12) (.l 11), none, none, []⟩]) (
     .reg [⟨.mv (.v 9), none, none, []⟩,
       ⟨.mv (.v 8), none, none, []⟩,
       ⟨.bin .mul false (.c (.int .i64 11)) (.l 1), none, none, []⟩,
       ⟨.mv (.v 10), none, none, []⟩,
       ⟨.bin .add false (.l 2) (.l 3), none, none, []⟩,
       ⟨.mv (.v 6), none, none, []⟩,
       ⟨.mv (.v 7), none, none, []⟩,
       ⟨.bin .mul false (.c (.int .i64 11)) (.l 6), none, none, []⟩,
       ⟨.mv (.v 10), none, none, []⟩,
       ⟨.bin .add false (.l 7) (.l 8), none, none, []⟩,
       ⟨.indexAddr 1 (.l 5) (.l 9), none, none, []⟩,
       ⟨.load false 1 (.l 10), none, none, []⟩,
       ⟨.indexAddr 1 (.l 0) (.l 4), none, none, []⟩,
       ⟨.store 1 (.l 12) (.l 11), none, none, []⟩]))) (
    .reg [⟨.mv (.v 10), none, none, []⟩,
      ⟨.bin .add false (.l 0) (.c (.int .i64 1)), none, none, []⟩,
      ⟨.mv (.l 1), some 10, none, []⟩])))))) (
  .seq (
  .reg [⟨.mv (.v 9), none, none, []⟩,
    ⟨.call 13 [(.l 0)] [(5, 3), (0, 0)] true, none, none, []⟩,
    ⟨.mv (.l 1), none, none, []⟩,
    ⟨.extract (.l 2) 0, none, none, []⟩,
    ⟨.extract (.l 2) 1, none, none, []⟩,
    ⟨.mv (.l 3), some 11, none, []⟩,
    ⟨.mv (.l 4), some 12, none, []⟩]) (
  .seq (
  .reg [⟨.mv (.v 4), none, none, []⟩,
    ⟨.mv (.l 0), none, none, []⟩,
    ⟨.mv (.v 11), none, some ((.l 1), true), []⟩,
    ⟨.mv (.v 5), none, some ((.l 1), true), []⟩,
    ⟨.mv (.v 7), none, some ((.l 1), true), []⟩,
    ⟨.mv (.v 8), none, some ((.l 1), true), []⟩,
    ⟨.minmax false [(.l 4), (.l 5)], none, some ((.l 1), true), []⟩,
    ⟨.slice false 3 (.l 3) none (some (.l 6)) none, none, some ((.l 1), true), []⟩,
    ⟨.call 15 [(.l 2), (.l 7)] [(0, 0)] true, none, some ((.l 1), true), []⟩,
    ⟨.pick (.l 1) (.l 8) (.c (.bool false)), none, none, []⟩,
    ⟨.mv (.l 9), none, none, []⟩,
    ⟨.mv (.v 12), none, some ((.l 10), true), []⟩,
    ⟨.mv (.v 7), none, some ((.l 10), true), []⟩,
    ⟨.mv (.v 8), none, some ((.l 10), true), []⟩,
    ⟨.minmax false [(.l 12), (.l 13)], none, some ((.l 10), true), []⟩,
    ⟨.bin .mul false (.c (.int .i64 11)) (.l 14), none, some ((.l 10), true), []⟩,
    ⟨.bin .eql false (.l 11) (.l 15), none, some ((.l 10), true), []⟩,
    ⟨.pick (.l 10) (.l 16) (.c (.bool false)), none, none, []⟩,
    ⟨.mv (.l 17), some 3, none, []⟩]) (
  .ret)))))))))))))⟩

def X8 : XFn :=
 ⟨111, [0, 1, 2, 6, 7, 8, 9, 10, 11, 12, 13, 14, 15, 16, 73, 79], 14, [(3, none)],
  .seq (
  .reg [⟨.mv (.c (.bool false)), some 3, none, []⟩]) (
  .seq (
  .reg [⟨.call 9 [] [(0, 0)] true, none, none, []⟩,
    ⟨.mv (.l 0), some 4, none, []⟩]) (
  .seq (
  .reg [⟨.mkarr 0 1 [] [], none, none, []⟩,
    ⟨.mv (.v 0), none, none, []⟩,
    ⟨.call 10 [(.l 1), (.c (.int .i64 6))] [(1, 3)] true, none, none, []⟩,
    ⟨.call 11 [(.l 2)] [(2, 1)] true, none, none, []⟩,
    ⟨.append 0 1 1 2 (.l 0) (.l 3), none, none, []⟩,
    ⟨.mv (.l 4), some 5, none, []⟩]) (
  .seq (
  .reg [⟨.mv (.v 5), none, none, []⟩,
    ⟨.mv (.v 1), none, none, []⟩,
    ⟨.mv (.v 1), none, none, []⟩,
    ⟨.len false (.l 2), none, none, []⟩,
    ⟨.minmax false [(.l 3), (.c (.int .i64 40))], none, none, []⟩,
    ⟨.slice false 1 (.l 1) none (some (.l 4)) none, none, none, []⟩,
    ⟨.append 4 1 1 0 (.l 0) (.l 5), none, none, []⟩,
    ⟨.mv (.l 6), some 5, none, []⟩]) (
  .seq (
  .reg [⟨.mv (.v 5), none, none, []⟩,
    ⟨.call 13 [(.l 0)] [(5, 3), (0, 0)] true, none, none, []⟩,
    ⟨.mv (.l 1), none, none, []⟩,
    ⟨.extract (.l 2) 0, none, none, []⟩,
    ⟨.extract (.l 2) 1, none, none, []⟩,
    ⟨.mv (.l 3), some 6, none, []⟩,
    ⟨.mv (.l 4), some 7, none, []⟩]) (
  .seq (
  .reg [⟨.mv (.v 5), none, none, []⟩,
    ⟨.call 17 [(.l 0)] [(6, 1)] true, none, none, []⟩,
    ⟨.mv (.l 1), some 8, none, []⟩]) (
  .seq (
  .seq (
  .reg [⟨.mv (.v 7), none, none, []⟩,
    ⟨.bin .lss false (.l 0) (.c (.int .i64 0)), none, none, []⟩,
    ⟨.mv (.l 1), none, none, []⟩,
    ⟨.mv (.v 7), none, some ((.l 2), false), []⟩,
    ⟨.mv (.v 5), none, some ((.l 2), false), []⟩,
    ⟨.len false (.l 4), none, some ((.l 2), false), []⟩,
    ⟨.bin .gtr false (.l 3) (.l 5), none, some ((.l 2), false), []⟩,
    ⟨.pick (.l 2) (.c (.bool true)) (.l 6), none, none, []⟩,
    ⟨.mv (.l 7), none, none, []⟩,
    ⟨.mv (.v 8), none, some ((.l 8), false), []⟩,
    ⟨.convStr (.l 9), none, some ((.l 8), false), []⟩,
    ⟨.mv (.v 5), none, some ((.l 8), false), []⟩,
    ⟨.mv (.v 7), none, some ((.l 8), false), []⟩,
    ⟨.slice false 1 (.l 11) none (some (.l 12)) none, none, some ((.l 8), false), []⟩,
    ⟨.convStr (.l 13), none, some ((.l 8), false), []⟩,
    ⟨.bin .neq false (.l 10) (.l 14), none, some ((.l 8), false), []⟩,
    ⟨.pick (.l 8) (.c (.bool true)) (.l 15), none, none, []⟩,
    ⟨.mv (.l 16), none, none, []⟩,
    ⟨.mv (.v 8), none, some ((.l 17), false), []⟩,
    ⟨.call 17 [(.l 18)] [(7, 1)] false, none, some ((.l 17), false), []⟩,
    ⟨.convStr (.l 19), none, some ((.l 17), false), []⟩,
    ⟨.mv (.v 8), none, some ((.l 17), false), [7]⟩,
    ⟨.convStr (.l 21), none, some ((.l 17), false), [7]⟩,
    ⟨.bin .neq false (.l 20) (.l 22), none, some ((.l 17), false), []⟩,
    ⟨.pick (.l 17) (.c (.bool true)) (.l 23), none, none, []⟩,
    ⟨.mv (.l 24), none, none, []⟩,
    ⟨.mv (.v 6), none, some ((.l 25), false), []⟩,
    ⟨.len false (.l 26), none, some ((.l 25), false), []⟩,
    ⟨.bin .gtr false (.l 27) (.c (.int .i64 12)), none, some ((.l 25), false), []⟩,
    ⟨.pick (.l 25) (.c (.bool true)) (.l 28), none, none, []⟩,
    ⟨.mv (.l 29), none, none, []⟩,
    ⟨.mv (.v 7), none, some ((.l 30), false), []⟩,
    ⟨.mv (.v 6), none, some ((.l 30), false), []⟩,
    ⟨.len false (.l 32), none, some ((.l 30), false), []⟩,
    ⟨.bin .mul false (.c (.int .i64 11)) (.l 33), none, some ((.l 30), false), []⟩,
    ⟨.bin .neq false (.l 31) (.l 34), none, some ((.l 30), false), []⟩,
    ⟨.pick (.l 30) (.c (.bool true)) (.l 35), some 14, none, []⟩]) (
  .cond (.v 14) (
   .seq (
   .reg [⟨.mv (.c (.bool false)), some 3, none, []⟩]) (
   .ret)) (
   .skip))) (
  .seq (
  .reg [⟨.mv (.v 2), none, none, []⟩,
    ⟨.call 10 [(.l 0), (.c (.int .i64 6))] [(8, 3)] true, none, none, []⟩,
    ⟨.mv (.l 1), some 9, none, []⟩]) (
  .seq (
  .seq (
  .reg [⟨.mv (.c (.int .i64 0)), some 10, none, []⟩]) (
  .block 0 (
   .loopS [4, 6, 8, 9, 10] 14 (
    .seq (
    .seq (
    .reg [⟨.mv (.v 10), none, none, []⟩,
      ⟨.mv (.v 9), none, none, []⟩,
      ⟨.len false (.l 1), none, none, []⟩,
      ⟨.bin .lss false (.l 0) (.l 2), some 15, none, []⟩]) (
    .cond (.v 15) (
     .skip) (
     .exit 0))) (
    .seq (
    .block 1 (
     .reg [⟨.mv (.v 8), none, none, []⟩,
       ⟨.mv (.v 9), none, none, []⟩,
       ⟨.mv (.v 10), none, none, []⟩,
       ⟨.indexAddr 3 (.l 1) (.l 2), none, none, []⟩,
       ⟨.load true 3 (.l 3), none, none, []⟩,
       ⟨.call 16 [(.l 0), (.l 4)] [(9, 1)] true, none, none, []⟩,
       ⟨.mv (.l 5), some 8, none, []⟩])) (
    .reg [⟨.mv (.v 10), none, none, []⟩,
      ⟨.bin .add false (.l 0) (.c (.int .i64 1)), none, none, []⟩,
      ⟨.mv (.l 1), some 10, none, []⟩])))))) (
  .seq (
  .reg [⟨.mkarr 10 3 [] [], none, none, []⟩,
    ⟨.mv (.v 6), none, none, []⟩,
    ⟨.append 10 3 24 2 (.l 0) (.l 1), none, none, []⟩,
    ⟨.mv (.l 2), some 11, none, []⟩]) (
  .seq (
  .reg [⟨.mv (.v 11), none, none, []⟩,
    ⟨.mv (.v 9), none, none, []⟩,
    ⟨.append 12 3 24 0 (.l 0) (.l 1), none, none, []⟩,
    ⟨.mv (.l 2), some 11, none, []⟩]) (
  .seq (
  .reg [⟨.mv (.v 8), none, none, []⟩,
    ⟨.call 13 [(.l 0)] [(13, 3), (0, 0)] true, none, none, []⟩,
    ⟨.mv (.l 1), none, none, []⟩,
    ⟨.extract (.l 2) 0, none, none, []⟩,
    ⟨.extract (.l 2) 1, none, none, []⟩,
    ⟨.mv (.l 3), some 12, none, []⟩,
    ⟨.mv (.l 4), some 13, none, []⟩]) (
  .seq (
  .reg [⟨.mv (.v 4), none, none, []⟩,
    ⟨.mv (.l 0), none, none, []⟩,
    ⟨.mv (.v 12), none, some ((.l 1), true), []⟩,
    ⟨.mv (.v 11), none, some ((.l 1), true), []⟩,
    ⟨.call 15 [(.l 2), (.l 3)] [(0, 0)] true, none, some ((.l 1), true), []⟩,
    ⟨.pick (.l 1) (.l 4) (.c (.bool false)), none, none, []⟩,
    ⟨.mv (.l 5), none, none, []⟩,
    ⟨.mv (.v 13), none, some ((.l 6), true), []⟩,
    ⟨.mv (.v 8), none, some ((.l 6), true), []⟩,
    ⟨.len false (.l 8), none, some ((.l 6), true), []⟩,
    ⟨.bin .eql false (.l 7) (.l 9), none, some ((.l 6), true), []⟩,
    ⟨.pick (.l 6) (.l 10) (.c (.bool false)), none, none, []⟩,
    ⟨.mv (.l 11), some 3, none, []⟩]) (
  .ret)))))))))))))⟩

def X9 : XFn :=
 ⟨81, [0, 1, 2, 3, 4, 5, 6, 7, 8, 9, 23], 9, [(0, none)],
  .seq (
  .reg [⟨.mv (.c (.bool false)), some 0, none, []⟩]) (
  .seq (
  .reg [⟨.build [(.int .i64 0), (.int .i64 0), (.int .i64 0)] [(0, 1, (.c (.int .i64 1))), (2, 1, (.c (.int .i64 1)))], none, none, []⟩,
    ⟨.alloc 0 [(.int .i64 0), (.int .i64 0), (.int .i64 0)], some 1, none, []⟩,
    ⟨.store 3 (.l 1) (.l 0), none, none, []⟩]) (
  .seq (
  .reg [⟨.load true 3 (.v 1), none, none, []⟩,
    ⟨.call 16 [(.c .nils), (.l 0)] [(1, 1)] true, none, none, []⟩,
    ⟨.mv (.l 1), some 2, none, []⟩]) (
  .seq (
  .seq (
  .reg [⟨.mv (.v 2), none, none, []⟩,
    ⟨.len false (.l 0), none, none, []⟩,
    ⟨.bin .neq false (.l 1) (.c (.int .i64 11)), none, none, []⟩,
    ⟨.mv (.l 2), none, none, []⟩,
    ⟨.mv (.v 2), none, some ((.l 3), false), [2]⟩,
    ⟨.slice false 1 (.l 4) none (some (.c (.int .i64 9))) none, none, some ((.l 3), false), [2]⟩,
    ⟨.convStr (.l 5), none, some ((.l 3), false), [2]⟩,
    ⟨.mkarr 2 1 [(.int .u8 0), (.int .u8 0), (.int .u8 0), (.int .u8 0), (.int .u8 0), (.int .u8 0), (.int .u8 0), (.int .u8 0), (.int .u8 0)] [(0, (.c (.int .u8 1))), (1, (.c (.int .u8 0))), (2, (.c (.int .u8 0))), (3, (.c (.int .u8 0))), (4, (.c (.int .u8 0))), (5, (.c (.int .u8 0))), (6, (.c (.int .u8 0))), (7, (.c (.int .u8 0))), (8, (.c (.int .u8 1)))], none, some ((.l 3), false), []⟩,
    ⟨.convStr (.l 7), none, some ((.l 3), false), []⟩,
    ⟨.bin .neq false (.l 6) (.l 8), none, some ((.l 3), false), []⟩,
    ⟨.pick (.l 3) (.c (.bool true)) (.l 9), some 10, none, []⟩]) (
  .cond (.v 10) (
   .seq (
   .reg [⟨.mv (.c (.bool false)), some 0, none, []⟩]) (
   .ret)) (
   .skip))) (
  .seq (
  .reg [⟨.mv (.v 2), none, none, []⟩,
    ⟨.call 13 [(.l 0)] [(3, 3), (0, 0)] true, none, none, []⟩,
    ⟨.mv (.l 1), none, none, []⟩,
    ⟨.extract (.l 2) 0, none, none, []⟩,
    ⟨.extract (.l 2) 1, none, none, []⟩,
    ⟨.mv (.l 3), some 3, none, []⟩,
    ⟨.mv (.l 4), some 4, none, []⟩]) (
  .seq (
  .reg [⟨.mv (.v 2), none, none, []⟩,
    ⟨.slice false 1 (.l 0) none (some (.c (.int .i64 10))) none, none, none, []⟩,
    ⟨.call 13 [(.l 1)] [(4, 3), (0, 0)] true, none, none, []⟩,
    ⟨.mv (.l 2), none, none, []⟩,
    ⟨.extract (.l 3) 0, none, none, []⟩,
    ⟨.extract (.l 3) 1, none, none, []⟩,
    ⟨.mv (.l 4), some 5, none, []⟩,
    ⟨.mv (.l 5), some 6, none, []⟩]) (
  .seq (
  .reg [⟨.makeSlice 5 1 1 (.int .u8 0) (.c (.int .i64 22)) (.c (.int .i64 22)), none, none, []⟩,
    ⟨.mv (.l 0), some 7, none, []⟩]) (
  .seq (
  .reg [⟨.mv (.v 7), none, none, []⟩,
    ⟨.call 13 [(.l 0)] [(6, 3), (0, 0)] true, none, none, []⟩,
    ⟨.mv (.l 1), none, none, []⟩,
    ⟨.extract (.l 2) 0, none, none, []⟩,
    ⟨.extract (.l 2) 1, none, none, []⟩,
    ⟨.mv (.l 3), some 8, none, []⟩,
    ⟨.mv (.l 4), some 9, none, []⟩]) (
  .seq (
  .reg [⟨.mv (.v 4), none, none, []⟩,
    ⟨.bin .eql false (.l 0) (.c (.int .i64 11)), none, none, []⟩,
    ⟨.mv (.l 1), none, none, []⟩,
    ⟨.mv (.v 3), none, some ((.l 2), true), []⟩,
    ⟨.load true 3 (.v 1), none, some ((.l 2), true), []⟩,
    ⟨.lit 3 [(.agg [(.int .i64 0), (.int .i64 0), (.int .i64 0)])] [(0, (.l 4))], none, some ((.l 2), true), []⟩,
    ⟨.call 15 [(.l 3), (.l 5)] [(0, 0)] false, none, some ((.l 2), true), []⟩,
    ⟨.pick (.l 2) (.l 6) (.c (.bool false)), none, none, []⟩,
    ⟨.mv (.l 7), none, none, []⟩,
    ⟨.mv (.v 5), none, some ((.l 8), true), []⟩,
    ⟨.len false (.l 9), none, some ((.l 8), true), []⟩,
    ⟨.bin .eql false (.l 10) (.c (.int .i64 0)), none, some ((.l 8), true), []⟩,
    ⟨.pick (.l 8) (.l 11) (.c (.bool false)), none, none, []⟩,
    ⟨.mv (.l 12), none, none, []⟩,
    ⟨.mv (.v 6), none, some ((.l 13), true), []⟩,
    ⟨.bin .eql false (.l 14) (.c (.int .i64 0)), none, some ((.l 13), true), []⟩,
    ⟨.pick (.l 13) (.l 15) (.c (.bool false)), none, none, []⟩,
    ⟨.mv (.l 16), none, none, []⟩,
    ⟨.mv (.v 8), none, some ((.l 17), true), []⟩,
    ⟨.len false (.l 18), none, some ((.l 17), true), []⟩,
    ⟨.bin .eql false (.l 19) (.c (.int .i64 0)), none, some ((.l 17), true), []⟩,
    ⟨.pick (.l 17) (.l 20) (.c (.bool false)), none, none, []⟩,
    ⟨.mv (.l 21), none, none, []⟩,
    ⟨.mv (.v 9), none, some ((.l 22), true), []⟩,
    ⟨.bin .eql false (.l 23) (.c (.int .i64 0)), none, some ((.l 22), true), []⟩,
    ⟨.pick (.l 22) (.l 24) (.c (.bool false)), none, none, []⟩,
    ⟨.mv (.l 25), none, none, []⟩,
    ⟨.mv (.v 7), none, some ((.l 26), true), []⟩,
    ⟨.call 17 [(.l 27)] [(7, 1)] false, none, some ((.l 26), true), []⟩,
    ⟨.len false (.l 28), none, some ((.l 26), true), []⟩,
    ⟨.bin .eql false (.l 29) (.c (.int .i64 0)), none, some ((.l 26), true), []⟩,
    ⟨.pick (.l 26) (.l 30) (.c (.bool false)), none, none, []⟩,
    ⟨.mv (.l 31), none, none, []⟩,
    ⟨.mv (.v 2), none, some ((.l 32), true), [8]⟩,
    ⟨.convStr (.l 33), none, some ((.l 32), true), [8]⟩,
    ⟨.load true 3 (.v 1), none, some ((.l 32), true), []⟩,
    ⟨.call 18 [(.l 35), (.c (.int .i64 0))] [(8, 1)] false, none, some ((.l 32), true), []⟩,
    ⟨.convStr (.l 36), none, some ((.l 32), true), []⟩,
    ⟨.bin .eql false (.l 34) (.l 37), none, some ((.l 32), true), []⟩,
    ⟨.pick (.l 32) (.l 38) (.c (.bool false)), none, none, []⟩,
    ⟨.mv (.l 39), some 0, none, []⟩]) (
  .ret)))))))))⟩

theorem c3 : compFn Try.prog 3 = some { X3 with body := strip X3.body } := by kernel_rfl
theorem c4 : compFn Try.prog 4 = some { X4 with body := strip X4.body } := by kernel_rfl
theorem c5 : compFn Try.prog 5 = some { X5 with body := strip X5.body } := by kernel_rfl
theorem c6 : compFn Try.prog 6 = some { X6 with body := strip X6.body } := by kernel_rfl
theorem c7 : compFn Try.prog 7 = some { X7 with body := strip X7.body } := by kernel_rfl
theorem c8 : compFn Try.prog 8 = some { X8 with body := strip X8.body } := by kernel_rfl
theorem c9 : compFn Try.prog 9 = some { X9 with body := strip X9.body } := by kernel_rfl
end Go.Proofs.Ytkfjnbljegoomaa.J
