/-
  Chapter 18: LineInverts, LineFewest as the plain machine has them.
-/
import Derived.Test.YtnlapjkfbodbkaaProg
import Derived.KernelRfl
import Derived.Test.YtnlapjkfbodbkaaLtP
import Derived.Test.YtnlapjkfbodbkaaLsA
namespace Go.Proofs.Ytnlapjkfbodbkaa.L
set_option linter.unusedSimpArgs false
set_option linter.unusedVariables false
set_option linter.unusedSectionVars false
open Go.Proofs.Ytnlapjkfbodbkaa.Am
def X4 : XFn :=
 ⟨93, [0, 1, 3, 4, 5, 6, 7, 8, 9, 10, 11, 12, 14, 15, 17, 35], 6, [(3, none)],
  .seq (
  .reg [⟨.box 0 (.v 1), some 2, none, []⟩,
    ⟨.mv (.c (.bool false)), some 3, none, []⟩]) (
  .seq (
  .reg [⟨.call 9 [] [(0, 0)] true, none, none, []⟩,
    ⟨.mv (.l 0), some 4, none, []⟩]) (
  .seq (
  .reg [⟨.mv (.v 0), none, none, []⟩,
    ⟨.call 20 [(.l 0)] [(1, 1)] true, none, none, []⟩,
    ⟨.mv (.l 1), some 5, none, []⟩]) (
  .seq (
  .reg [⟨.load true 3 (.v 2), none, none, []⟩,
    ⟨.call 21 [(.l 0)] [(0, 0), (0, 0), (0, 0)] true, none, none, []⟩,
    ⟨.mv (.l 1), none, none, []⟩,
    ⟨.extract (.l 2) 0, none, none, []⟩,
    ⟨.extract (.l 2) 1, none, none, []⟩,
    ⟨.alloc 2 [(.int .i64 0), (.int .i64 0)], some 7, none, []⟩,
    ⟨.mv (.l 3), some 6, none, []⟩,
    ⟨.store 2 (.l 5) (.l 4), none, none, []⟩]) (
  .seq (
  .reg [⟨.mv (.v 5), none, none, []⟩,
    ⟨.mv (.v 6), none, none, []⟩,
    ⟨.load true 2 (.v 7), none, none, []⟩,
    ⟨.call 10 [(.l 0), (.l 1), (.l 2)] [(3, 1), (0, 0), (0, 0)] true, none, none, []⟩,
    ⟨.mv (.l 3), none, none, []⟩,
    ⟨.extract (.l 4) 0, none, none, []⟩,
    ⟨.extract (.l 4) 1, none, none, []⟩,
    ⟨.extract (.l 4) 2, none, none, []⟩,
    ⟨.mv (.l 5), some 8, none, []⟩,
    ⟨.mv (.l 6), some 9, none, []⟩,
    ⟨.mv (.l 7), some 10, none, []⟩]) (
  .seq (
  .seq (
  .reg [⟨.mv (.v 10), none, none, []⟩,
    ⟨.bin .neq false (.l 0) (.c (.int .i64 0)), some 15, none, []⟩]) (
  .cond (.v 15) (
   .seq (
   .reg [⟨.mv (.v 10), none, none, []⟩,
     ⟨.bin .eql false (.l 0) (.c (.int .i64 181)), none, none, []⟩,
     ⟨.mv (.l 1), none, none, []⟩,
     ⟨.mv (.v 9), none, some ((.l 2), true), []⟩,
     ⟨.mv (.v 5), none, some ((.l 2), true), []⟩,
     ⟨.mv (.v 6), none, some ((.l 2), true), []⟩,
     ⟨.indexAddrA 2 1 (.v 7) (.c (.int .i64 0)), none, some ((.l 2), true), []⟩,
     ⟨.load false 1 (.l 6), none, some ((.l 2), true), []⟩,
     ⟨.indexAddrA 2 1 (.v 7) (.c (.int .i64 1)), none, some ((.l 2), true), []⟩,
     ⟨.load false 1 (.l 8), none, some ((.l 2), true), []⟩,
     ⟨.minmax true [(.l 7), (.l 9)], none, some ((.l 2), true), []⟩,
     ⟨.bin .sub false (.l 5) (.l 10), none, some ((.l 2), true), []⟩,
     ⟨.call 22 [(.l 4), (.l 11)] [(0, 0)] true, none, some ((.l 2), true), []⟩,
     ⟨.bin .eql false (.l 3) (.l 12), none, some ((.l 2), true), []⟩,
     ⟨.pick (.l 2) (.l 13) (.c (.bool false)), none, none, []⟩,
     ⟨.mv (.l 14), none, none, []⟩,
     ⟨.mv (.v 8), none, some ((.l 15), true), []⟩,
     ⟨.len false (.l 16), none, some ((.l 15), true), []⟩,
     ⟨.bin .eql false (.l 17) (.c (.int .i64 0)), none, some ((.l 15), true), []⟩,
     ⟨.pick (.l 15) (.l 18) (.c (.bool false)), none, none, []⟩,
     ⟨.mv (.l 19), none, none, []⟩,
     ⟨.mv (.v 4), none, some ((.l 20), true), []⟩,
     ⟨.pick (.l 20) (.l 21) (.c (.bool false)), none, none, []⟩,
     ⟨.mv (.l 22), some 3, none, []⟩]) (
   .ret)) (
   .skip))) (
  .seq (
  .reg [⟨.mv (.v 8), none, none, []⟩,
    ⟨.load true 2 (.v 7), none, none, []⟩,
    ⟨.call 23 [(.l 0), (.l 1)] [(4, 1), (0, 0), (0, 0)] true, none, none, []⟩,
    ⟨.mv (.l 2), none, none, []⟩,
    ⟨.extract (.l 3) 0, none, none, []⟩,
    ⟨.extract (.l 3) 1, none, none, []⟩,
    ⟨.extract (.l 3) 2, none, none, []⟩,
    ⟨.mv (.l 4), some 11, none, []⟩,
    ⟨.mv (.l 5), none, none, []⟩,
    ⟨.mv (.l 6), some 12, none, []⟩]) (
  .seq (
  .reg [⟨.mv (.v 11), none, none, []⟩,
    ⟨.mv (.v 6), none, none, []⟩,
    ⟨.load true 2 (.v 7), none, none, []⟩,
    ⟨.call 10 [(.l 0), (.l 1), (.l 2)] [(5, 1), (0, 0), (0, 0)] true, none, none, []⟩,
    ⟨.mv (.l 3), none, none, []⟩,
    ⟨.extract (.l 4) 0, none, none, []⟩,
    ⟨.extract (.l 4) 1, none, none, []⟩,
    ⟨.extract (.l 4) 2, none, none, []⟩,
    ⟨.mv (.l 5), some 13, none, []⟩,
    ⟨.mv (.l 6), none, none, []⟩,
    ⟨.mv (.l 7), some 14, none, []⟩]) (
  .seq (
  .reg [⟨.mv (.v 12), none, none, []⟩,
    ⟨.bin .eql false (.l 0) (.c (.int .i64 0)), none, none, []⟩,
    ⟨.mv (.l 1), none, none, []⟩,
    ⟨.mv (.v 11), none, some ((.l 2), true), []⟩,
    ⟨.mv (.v 5), none, some ((.l 2), true), []⟩,
    ⟨.call 17 [(.l 3), (.l 4)] [(0, 0)] true, none, some ((.l 2), true), []⟩,
    ⟨.pick (.l 2) (.l 5) (.c (.bool false)), none, none, []⟩,
    ⟨.mv (.l 6), none, none, []⟩,
    ⟨.mv (.v 14), none, some ((.l 7), true), []⟩,
    ⟨.bin .eql false (.l 8) (.c (.int .i64 0)), none, some ((.l 7), true), []⟩,
    ⟨.pick (.l 7) (.l 9) (.c (.bool false)), none, none, []⟩,
    ⟨.mv (.l 10), none, none, []⟩,
    ⟨.mv (.v 13), none, some ((.l 11), true), []⟩,
    ⟨.mv (.v 8), none, some ((.l 11), true), []⟩,
    ⟨.call 14 [(.l 12), (.l 13)] [(0, 0)] true, none, some ((.l 11), true), []⟩,
    ⟨.pick (.l 11) (.l 14) (.c (.bool false)), none, none, []⟩,
    ⟨.mv (.l 15), none, none, []⟩,
    ⟨.mv (.v 4), none, some ((.l 16), true), []⟩,
    ⟨.pick (.l 16) (.l 17) (.c (.bool false)), none, none, []⟩,
    ⟨.mv (.l 18), some 3, none, []⟩]) (
  .ret)))))))))⟩

def X6 : XFn :=
 ⟨43, [0, 1, 3, 4, 5, 6, 7, 8, 9, 11], 5, [(3, none)],
  .seq (
  .reg [⟨.box 0 (.v 1), some 2, none, []⟩,
    ⟨.mv (.c (.bool false)), some 3, none, []⟩]) (
  .seq (
  .reg [⟨.call 9 [] [(0, 0)] true, none, none, []⟩,
    ⟨.mv (.l 0), some 4, none, []⟩]) (
  .seq (
  .reg [⟨.mv (.v 0), none, none, []⟩,
    ⟨.call 20 [(.l 0)] [(1, 1)] true, none, none, []⟩,
    ⟨.mv (.l 1), some 5, none, []⟩]) (
  .seq (
  .reg [⟨.load true 3 (.v 2), none, none, []⟩,
    ⟨.call 21 [(.l 0)] [(0, 0), (0, 0), (0, 0)] true, none, none, []⟩,
    ⟨.mv (.l 1), none, none, []⟩,
    ⟨.extract (.l 2) 0, none, none, []⟩,
    ⟨.extract (.l 2) 1, none, none, []⟩,
    ⟨.alloc 2 [(.int .i64 0), (.int .i64 0)], some 7, none, []⟩,
    ⟨.mv (.l 3), some 6, none, []⟩,
    ⟨.store 2 (.l 5) (.l 4), none, none, []⟩]) (
  .seq (
  .reg [⟨.mv (.v 5), none, none, []⟩,
    ⟨.mv (.v 6), none, none, []⟩,
    ⟨.load true 2 (.v 7), none, none, []⟩,
    ⟨.call 10 [(.l 0), (.l 1), (.l 2)] [(3, 1), (0, 0), (0, 0)] true, none, none, []⟩,
    ⟨.mv (.l 3), none, none, []⟩,
    ⟨.extract (.l 4) 0, none, none, []⟩,
    ⟨.extract (.l 4) 1, none, none, []⟩,
    ⟨.extract (.l 4) 2, none, none, []⟩,
    ⟨.mv (.l 5), some 8, none, []⟩,
    ⟨.mv (.l 6), none, none, []⟩,
    ⟨.mv (.l 7), some 9, none, []⟩]) (
  .seq (
  .reg [⟨.mv (.v 9), none, none, []⟩,
    ⟨.bin .neq false (.l 0) (.c (.int .i64 0)), none, none, []⟩,
    ⟨.mv (.l 1), none, none, []⟩,
    ⟨.mv (.v 8), none, some ((.l 2), false), [4]⟩,
    ⟨.len false (.l 3), none, some ((.l 2), false), [4]⟩,
    ⟨.mv (.v 5), none, some ((.l 2), false), []⟩,
    ⟨.call 24 [(.l 5)] [(4, 1)] false, none, some ((.l 2), false), []⟩,
    ⟨.mv (.v 6), none, some ((.l 2), false), [4]⟩,
    ⟨.load true 2 (.v 7), none, some ((.l 2), false), [4]⟩,
    ⟨.call 25 [(.l 6), (.l 7), (.l 8)] [(0, 0)] false, none, some ((.l 2), false), []⟩,
    ⟨.bin .eql false (.l 4) (.l 9), none, some ((.l 2), false), []⟩,
    ⟨.pick (.l 2) (.c (.bool true)) (.l 10), none, none, []⟩,
    ⟨.mv (.l 11), none, none, []⟩,
    ⟨.mv (.v 4), none, some ((.l 12), true), []⟩,
    ⟨.pick (.l 12) (.l 13) (.c (.bool false)), none, none, []⟩,
    ⟨.mv (.l 14), some 3, none, []⟩]) (
  .ret))))))⟩

theorem c4 : compFn Try.prog 4 = some { X4 with body := strip X4.body } := by kernel_rfl
theorem c6 : compFn Try.prog 6 = some { X6 with body := strip X6.body } := by kernel_rfl
end Go.Proofs.Ytnlapjkfbodbkaa.L
