/-
  Chapter 26: sanity, as the machine takes it (printed).
-/
import Derived.Test.YtalgbgeocpbadaaProg
import Derived.KernelRfl
import Derived.Test.YtalgbgeocpbadaaMg4
namespace Go.Proofs.Ytalgbgeocpbadaa.K
set_option linter.unusedSimpArgs false
set_option linter.unusedVariables false
set_option linter.unusedSectionVars false
open Go.Proofs.Ytalgbgeocpbadaa.Am
def X8 : XFn :=
 ⟨139, [0, 1, 2, 3, 4, 5, 6, 8, 10, 12, 13, 14, 15, 16], 17, [(0, none)],
  .seq (
  .reg [⟨.mv (.c (.bool false)), some 0, none, []⟩]) (
  .seq (
  .reg [⟨.call 22 [(.c (.int .i64 48)), (.c (.int .i64 12))] [(0, 0), (0, 0), (0, 1), (1, 1)] true, none, none, []⟩,
    ⟨.alloc 2 [(.int .i64 0), (.int .i64 0), .nils, .nils], some 1, none, []⟩,
    ⟨.store 4 (.l 1) (.l 0), none, none, []⟩]) (
  .seq (
  .reg [⟨.fieldAddr 2 (.v 1), none, none, []⟩,
    ⟨.load false 1 (.l 0), none, none, []⟩,
    ⟨.indexAddr 1 (.l 1) (.c (.int .i64 0)), none, none, []⟩,
    ⟨.load false 1 (.l 2), none, none, []⟩,
    ⟨.fieldAddr 2 (.v 1), none, none, []⟩,
    ⟨.load false 1 (.l 4), none, none, []⟩,
    ⟨.indexAddr 1 (.l 5) (.c (.int .i64 0)), none, none, []⟩,
    ⟨.load false 1 (.l 6), none, none, []⟩,
    ⟨.fieldAddr 3 (.v 1), none, none, []⟩,
    ⟨.load false 1 (.l 8), none, none, []⟩,
    ⟨.indexAddr 1 (.l 9) (.c (.int .i64 0)), none, none, []⟩,
    ⟨.load false 1 (.l 10), none, none, []⟩,
    ⟨.fieldAddr 3 (.v 1), none, none, []⟩,
    ⟨.load false 1 (.l 12), none, none, []⟩,
    ⟨.indexAddr 1 (.l 13) (.c (.int .i64 2)), none, none, []⟩,
    ⟨.load false 1 (.l 14), none, none, []⟩,
    ⟨.indexAddr 1 (.l 3) (.c (.int .i64 0)), none, none, []⟩,
    ⟨.store 1 (.l 16) (.c (.bool true)), none, none, []⟩,
    ⟨.indexAddr 1 (.l 7) (.c (.int .i64 2)), none, none, []⟩,
    ⟨.store 1 (.l 18) (.c (.bool true)), none, none, []⟩,
    ⟨.indexAddr 1 (.l 11) (.c (.int .i64 1)), none, none, []⟩,
    ⟨.store 1 (.l 20) (.c (.bool true)), none, none, []⟩,
    ⟨.indexAddr 1 (.l 15) (.c (.int .i64 3)), none, none, []⟩,
    ⟨.store 1 (.l 22) (.c (.bool true)), none, none, []⟩]) (
  .frz [(0, true), (1, true), (2, true)] (
  .seq (
  .reg [⟨.lit 1 [(.int .i64 0)] [(0, (.c (.int .i64 3)))], none, none, []⟩,
    ⟨.build [(.int .i64 0), .nils, .nils] [(0, 1, (.c (.int .i64 2))), (2, 1, (.l 0))], none, none, []⟩,
    ⟨.alloc 3 [(.int .i64 0), .nils, .nils], some 2, none, []⟩,
    ⟨.store 3 (.l 2) (.l 1), none, none, []⟩]) (
  .seq (
  .reg [⟨.load true 4 (.v 1), none, none, []⟩,
    ⟨.call 10 [(.l 0), (.c (.int .i64 2))] [(4, 3), (0, 0)] true, none, none, []⟩,
    ⟨.mv (.l 1), none, none, []⟩,
    ⟨.extract (.l 2) 0, none, none, []⟩,
    ⟨.extract (.l 2) 1, none, none, []⟩,
    ⟨.mv (.l 3), some 3, none, []⟩,
    ⟨.mv (.l 4), some 4, none, []⟩]) (
  .seq (
  .reg [⟨.load true 4 (.v 1), none, none, []⟩,
    ⟨.call 10 [(.l 0), (.c (.int .i64 3))] [(5, 3), (0, 0)] true, none, none, []⟩,
    ⟨.mv (.l 1), none, none, []⟩,
    ⟨.extract (.l 2) 0, none, none, []⟩,
    ⟨.extract (.l 2) 1, none, none, []⟩,
    ⟨.mv (.l 3), some 5, none, []⟩,
    ⟨.mv (.l 4), some 6, none, []⟩]) (
  .seq (
  .reg [⟨.load true 4 (.v 1), none, none, []⟩,
    ⟨.call 10 [(.l 0), (.c (.int .i64 0))] [(6, 3), (0, 0)] true, none, none, []⟩,
    ⟨.mv (.l 1), none, none, []⟩,
    ⟨.extract (.l 2) 0, none, none, []⟩,
    ⟨.extract (.l 2) 1, none, none, []⟩,
    ⟨.mv (.l 3), none, none, []⟩,
    ⟨.mv (.l 4), some 7, none, []⟩]) (
  .seq (
  .reg [⟨.load true 4 (.v 1), none, none, []⟩,
    ⟨.call 10 [(.l 0), (.c (.int .i64 65))] [(7, 3), (0, 0)] true, none, none, []⟩,
    ⟨.mv (.l 1), none, none, []⟩,
    ⟨.extract (.l 2) 0, none, none, []⟩,
    ⟨.extract (.l 2) 1, none, none, []⟩,
    ⟨.mv (.l 3), none, none, []⟩,
    ⟨.mv (.l 4), some 8, none, []⟩]) (
  .seq (
  .reg [⟨.build [(.int .i64 0), (.int .i64 0), .nils, .nils] [(0, 1, (.c (.int .i64 1)))], none, none, []⟩,
    ⟨.call 10 [(.l 0), (.c (.int .i64 2))] [(8, 3), (0, 0)] true, none, none, []⟩,
    ⟨.mv (.l 1), none, none, []⟩,
    ⟨.extract (.l 2) 0, none, none, []⟩,
    ⟨.extract (.l 2) 1, none, none, []⟩,
    ⟨.mv (.l 3), none, none, []⟩,
    ⟨.mv (.l 4), some 9, none, []⟩]) (
  .seq (
  .reg [⟨.mv (.v 4), none, none, []⟩,
    ⟨.bin .eql false (.l 0) (.c (.int .i64 0)), none, none, []⟩,
    ⟨.mv (.l 1), none, none, []⟩,
    ⟨.mv (.v 3), none, some ((.l 2), true), []⟩,
    ⟨.lit 1 [(.int .i64 0), (.int .i64 0)] [(0, (.c (.int .i64 0))), (1, (.c (.int .i64 2)))], none, some ((.l 2), true), []⟩,
    ⟨.build [(.int .i64 0), .nils, .nils] [(1, 1, (.l 4))], none, some ((.l 2), true), []⟩,
    ⟨.lit 1 [(.int .i64 0)] [(0, (.c (.int .i64 1)))], none, some ((.l 2), true), []⟩,
    ⟨.build [(.int .i64 0), .nils, .nils] [(2, 1, (.l 6))], none, some ((.l 2), true), []⟩,
    ⟨.load true 3 (.v 2), none, some ((.l 2), true), []⟩,
    ⟨.lit 3 [(.agg [(.int .i64 0), .nils, .nils]), (.agg [(.int .i64 0), .nils, .nils]), (.agg [(.int .i64 0), .nils, .nils])] [(0, (.l 5)), (1, (.l 7)), (2, (.l 8))], none, some ((.l 2), true), []⟩,
    ⟨.call 12 [(.l 3), (.l 9)] [(0, 0)] true, none, some ((.l 2), true), []⟩,
    ⟨.pick (.l 2) (.l 10) (.c (.bool false)), none, none, []⟩,
    ⟨.mv (.l 11), none, none, []⟩,
    ⟨.mv (.v 6), none, some ((.l 12), true), []⟩,
    ⟨.bin .eql false (.l 13) (.c (.int .i64 0)), none, some ((.l 12), true), []⟩,
    ⟨.pick (.l 12) (.l 14) (.c (.bool false)), none, none, []⟩,
    ⟨.mv (.l 15), none, none, []⟩,
    ⟨.mv (.v 5), none, some ((.l 16), true), []⟩,
    ⟨.lit 1 [(.int .i64 0), (.int .i64 0)] [(0, (.c (.int .i64 0))), (1, (.c (.int .i64 2)))], none, some ((.l 16), true), []⟩,
    ⟨.lit 1 [(.int .i64 0)] [(0, (.c (.int .i64 1)))], none, some ((.l 16), true), []⟩,
    ⟨.build [(.int .i64 0), .nils, .nils] [(1, 1, (.l 18)), (2, 1, (.l 19))], none, some ((.l 16), true), []⟩,
    ⟨.load true 3 (.v 2), none, some ((.l 16), true), []⟩,
    ⟨.lit 3 [(.agg [(.int .i64 0), .nils, .nils]), (.agg [(.int .i64 0), .nils, .nils])] [(0, (.l 20)), (1, (.l 21))], none, some ((.l 16), true), []⟩,
    ⟨.call 12 [(.l 17), (.l 22)] [(0, 0)] true, none, some ((.l 16), true), []⟩,
    ⟨.pick (.l 16) (.l 23) (.c (.bool false)), none, none, []⟩,
    ⟨.mv (.l 24), some 10, none, []⟩]) (
  .seq (
  .reg [⟨.load true 3 (.v 2), none, none, []⟩,
    ⟨.build [(.int .i64 0), .nils, .nils] [(0, 1, (.c (.int .i64 12)))], none, none, []⟩,
    ⟨.lit 3 [(.agg [(.int .i64 0), .nils, .nils]), (.agg [(.int .i64 0), .nils, .nils])] [(0, (.l 0)), (1, (.l 1))], none, none, []⟩,
    ⟨.call 16 [(.c (.int .i64 48)), (.c (.int .i64 12)), (.l 2)] [(0, 0), (0, 0), (9, 1), (10, 1), (0, 0), (0, 0)] true, none, none, []⟩,
    ⟨.build [(.int .i64 0), (.int .i64 0), .nils, .nils, (.int .i64 0), (.int .i64 0)] [(4, 1, (.c (.int .i64 1))), (5, 1, (.c (.int .i64 270)))], none, none, []⟩,
    ⟨.call 15 [(.l 3), (.l 4)] [(0, 0)] true, none, none, []⟩,
    ⟨.mv (.l 5), some 11, none, []⟩]) (
  .seq (
  .reg [⟨.lit 1 [(.int .i64 0), (.int .i64 0)] [(0, (.c (.int .i64 1))), (1, (.c (.int .i64 1)))], none, none, []⟩,
    ⟨.build [(.int .i64 0), .nils, .nils] [(1, 1, (.l 0))], none, none, []⟩,
    ⟨.lit 3 [(.agg [(.int .i64 0), .nils, .nils])] [(0, (.l 1))], none, none, []⟩,
    ⟨.call 16 [(.c (.int .i64 48)), (.c (.int .i64 12)), (.l 2)] [(0, 0), (0, 0), (11, 1), (12, 1), (0, 0), (0, 0)] true, none, none, []⟩,
    ⟨.build [(.int .i64 0), (.int .i64 0), .nils, .nils, (.int .i64 0), (.int .i64 0)] [(5, 1, (.c (.int .i64 270)))], none, none, []⟩,
    ⟨.call 15 [(.l 3), (.l 4)] [(0, 0)] true, none, none, []⟩,
    ⟨.mv (.l 5), some 12, none, []⟩]) (
  .seq (
  .reg [⟨.call 16 [(.c (.int .i64 (-1))), (.c (.int .i64 12)), (.c .nils)] [(0, 0), (0, 0), (13, 1), (14, 1), (0, 0), (0, 0)] true, none, none, []⟩,
    ⟨.build [(.int .i64 0), (.int .i64 0), .nils, .nils, (.int .i64 0), (.int .i64 0)] [(5, 1, (.c (.int .i64 1)))], none, none, []⟩,
    ⟨.call 15 [(.l 0), (.l 1)] [(0, 0)] true, none, none, []⟩,
    ⟨.mv (.l 2), some 13, none, []⟩]) (
  .seq (
  .reg [⟨.mv (.v 10), none, none, []⟩,
    ⟨.mv (.l 0), none, none, []⟩,
    ⟨.mv (.v 7), none, some ((.l 1), true), []⟩,
    ⟨.bin .eql false (.l 2) (.c (.int .i64 1)), none, some ((.l 1), true), []⟩,
    ⟨.pick (.l 1) (.l 3) (.c (.bool false)), none, none, []⟩,
    ⟨.mv (.l 4), none, none, []⟩,
    ⟨.mv (.v 8), none, some ((.l 5), true), []⟩,
    ⟨.bin .eql false (.l 6) (.c (.int .i64 1)), none, some ((.l 5), true), []⟩,
    ⟨.pick (.l 5) (.l 7) (.c (.bool false)), none, none, []⟩,
    ⟨.mv (.l 8), none, none, []⟩,
    ⟨.mv (.v 9), none, some ((.l 9), true), []⟩,
    ⟨.bin .eql false (.l 10) (.c (.int .i64 250)), none, some ((.l 9), true), []⟩,
    ⟨.pick (.l 9) (.l 11) (.c (.bool false)), none, none, []⟩,
    ⟨.mv (.l 12), none, none, []⟩,
    ⟨.mv (.v 11), none, some ((.l 13), true), []⟩,
    ⟨.pick (.l 13) (.l 14) (.c (.bool false)), none, none, []⟩,
    ⟨.mv (.l 15), none, none, []⟩,
    ⟨.mv (.v 12), none, some ((.l 16), true), []⟩,
    ⟨.pick (.l 16) (.l 17) (.c (.bool false)), none, none, []⟩,
    ⟨.mv (.l 18), none, none, []⟩,
    ⟨.mv (.v 13), none, some ((.l 19), true), []⟩,
    ⟨.pick (.l 19) (.l 20) (.c (.bool false)), none, none, []⟩,
    ⟨.mv (.l 21), none, none, []⟩,
    ⟨.load true 4 (.v 1), none, some ((.l 22), true), []⟩,
    ⟨.call 13 [(.l 23)] [(0, 0)] false, none, some ((.l 22), true), []⟩,
    ⟨.bin .eql false (.l 24) (.c (.int .i64 4)), none, some ((.l 22), true), []⟩,
    ⟨.pick (.l 22) (.l 25) (.c (.bool false)), none, none, []⟩,
    ⟨.mv (.l 26), none, none, []⟩,
    ⟨.mv (.v 5), none, some ((.l 27), true), []⟩,
    ⟨.call 16 [(.c (.int .i64 48)), (.c (.int .i64 12)), (.l 28)] [(0, 0), (0, 0), (15, 1), (16, 1), (0, 0), (0, 0)] false, none, some ((.l 27), true), []⟩,
    ⟨.load true 4 (.v 1), none, some ((.l 27), true), [15, 16]⟩,
    ⟨.build [(.int .i64 0), (.int .i64 0), .nils, .nils, (.int .i64 0), (.int .i64 0)] [(0, 4, (.l 30)), (4, 1, (.c (.int .i64 2)))], none, some ((.l 27), true), [15, 16]⟩,
    ⟨.call 15 [(.l 29), (.l 31)] [(0, 0)] false, none, some ((.l 27), true), []⟩,
    ⟨.pick (.l 27) (.l 32) (.c (.bool false)), none, none, []⟩,
    ⟨.mv (.l 33), some 0, none, []⟩]) (
  .ret)))))))))))))))⟩

theorem c8 : compFn Try.prog 8 = some { X8 with body := strip X8.body } := by kernel_rfl
end Go.Proofs.Ytalgbgeocpbadaa.K
