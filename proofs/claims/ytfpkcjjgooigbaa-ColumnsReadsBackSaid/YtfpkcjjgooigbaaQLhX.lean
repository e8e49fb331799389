/-
  Chapter 18's Join, for chapter 20, as the machine takes it (printed).
-/
import Derived.Test.YtfpkcjjgooigbaaProg
import Derived.KernelRfl
import Derived.Test.YtfpkcjjgooigbaaMg4
namespace Go.Proofs.Ytfpkcjjgooigbaa.L
set_option linter.unusedSimpArgs false
set_option linter.unusedVariables false
set_option linter.unusedSectionVars false
open Go.Proofs.Ytfpkcjjgooigbaa.Am
def X50 : XFn :=
 ⟨57, [0, 1, 3, 4, 5, 6, 7, 8, 9, 10, 12, 15, 18, 19, 20, 21, 22, 33, 43, 46], 4, [(3, none), (4, none), (5, none)],
  .seq (
  .reg [⟨.boxA 0 (.v 1), some 2, none, []⟩,
    ⟨.mv (.c .nils), some 3, none, []⟩,
    ⟨.mv (.c (.int .i64 0)), some 4, none, []⟩,
    ⟨.mv (.c (.int .i64 0)), some 5, none, []⟩]) (
  .seq (
  .seq (
  .reg [⟨.loadA 2 (.v 2), none, none, []⟩,
    ⟨.call 53 [(.l 0)] [(0, 0)] true, none, none, []⟩,
    ⟨.un .not (.l 1), some 11, none, []⟩]) (
  .cond (.v 11) (
   .seq (
   .reg [⟨.mv (.c .nils), some 3, none, []⟩,
     ⟨.mv (.c (.int .i64 0)), some 4, none, []⟩,
     ⟨.mv (.c (.int .i64 1)), some 5, none, []⟩]) (
   .ret)) (
   .skip))) (
  .seq (
  .seq (
  .reg [⟨.mv (.v 0), none, none, []⟩,
    ⟨.len false (.l 0), none, none, []⟩,
    ⟨.bin .eql false (.l 1) (.c (.int .i64 0)), some 12, none, []⟩]) (
  .cond (.v 12) (
   .seq (
   .reg [⟨.mv (.c .nils), some 3, none, []⟩,
     ⟨.mv (.c (.int .i64 0)), some 4, none, []⟩,
     ⟨.mv (.c (.int .i64 180)), some 5, none, []⟩]) (
   .ret)) (
   .skip))) (
  .seq (
  .reg [⟨.mv (.c .nils), some 6, none, []⟩]) (
  .seq (
  .seq (
  .reg [⟨.mv (.v 0), some 13, none, []⟩,
    ⟨.len false (.l 0), some 14, none, []⟩,
    ⟨.mv (.c (.int .i64 0)), some 15, none, []⟩]) (
  .block 0 (
   .loopS [2, 6, 13, 14, 15] 4 (
    .seq (
    .reg [⟨.bin .lss false (.v 15) (.v 14), some 16, none, []⟩]) (
    .seq (
    .cond (.v 16) (
     .skip) (
     .exit 0)) (
    .seq (
    .block 1 (
     .seq (
     .reg [⟨.mv (.v 15), none, none, []⟩,
       ⟨.indexAddr 1 (.v 13) (.v 15), none, none, []⟩,
       ⟨.load false 1 (.l 1), none, none, []⟩,
       ⟨.mv (.l 0), some 7, none, []⟩,
       ⟨.mv (.l 2), some 8, none, []⟩]) (
     .seq (
     .reg [⟨.mv (.v 7), none, none, []⟩,
       ⟨.minmax false [(.l 0), (.c (.int .i64 1))], none, none, []⟩,
       ⟨.indexAddrA 2 1 (.v 2) (.l 1), none, none, []⟩,
       ⟨.load false 1 (.l 2), none, none, []⟩,
       ⟨.mv (.l 3), some 9, none, []⟩]) (
     .seq (
     .seq (
     .reg [⟨.mv (.v 8), none, none, []⟩,
       ⟨.call 48 [(.l 0)] [(0, 0)] true, none, none, []⟩,
       ⟨.mv (.v 9), none, none, []⟩,
       ⟨.bin .neq false (.l 1) (.l 2), some 17, none, []⟩]) (
     .cond (.v 17) (
      .seq (
      .reg [⟨.mv (.v 7), none, none, []⟩,
        ⟨.mv (.c .nils), some 3, none, []⟩,
        ⟨.mv (.l 0), some 4, none, []⟩,
        ⟨.mv (.c (.int .i64 180)), some 5, none, []⟩]) (
      .ret)) (
      .skip))) (
     .seq (
     .seq (
     .reg [⟨.mv (.v 8), none, none, []⟩,
       ⟨.mv (.v 9), none, none, []⟩,
       ⟨.slice false 1 (.l 0) (some (.l 1)) none none, none, none, []⟩,
       ⟨.call 35 [(.l 2)] [(0, 0), (0, 0)] true, none, none, []⟩,
       ⟨.mv (.l 3), none, none, []⟩,
       ⟨.extract (.l 4) 0, none, none, []⟩,
       ⟨.extract (.l 4) 1, none, none, []⟩,
       ⟨.mv (.l 5), none, none, []⟩,
       ⟨.mv (.l 6), some 10, none, []⟩]) (
     .seq (
     .reg [⟨.mv (.v 10), none, none, []⟩,
       ⟨.un .not (.l 0), some 18, none, []⟩]) (
     .cond (.v 18) (
      .seq (
      .reg [⟨.mv (.v 7), none, none, []⟩,
        ⟨.mv (.c .nils), some 3, none, []⟩,
        ⟨.mv (.l 0), some 4, none, []⟩,
        ⟨.mv (.c (.int .i64 180)), some 5, none, []⟩]) (
      .ret)) (
      .skip)))) (
     .seq (
     .seq (
     .reg [⟨.mv (.v 7), none, none, []⟩,
       ⟨.bin .gtr false (.l 0) (.c (.int .i64 0)), some 19, none, []⟩]) (
     .cond (.v 19) (
      .reg [⟨.mv (.v 6), none, none, []⟩,
        ⟨.mkarr 1 1 [(.int .u8 0)] [(0, (.c (.int .u8 0)))], none, none, []⟩,
        ⟨.append 2 1 1 1 (.l 0) (.l 1), none, none, []⟩,
        ⟨.mv (.l 2), some 6, none, []⟩]) (
      .skip))) (
     .reg [⟨.mv (.v 6), none, none, []⟩,
       ⟨.mv (.v 8), none, none, []⟩,
       ⟨.mv (.v 9), none, none, []⟩,
       ⟨.slice false 1 (.l 1) (some (.l 2)) none none, none, none, []⟩,
       ⟨.append 3 1 1 0 (.l 0) (.l 3), none, none, []⟩,
       ⟨.mv (.l 4), some 6, none, []⟩]))))))) (
    .reg [⟨.bin .add false (.v 15) (.c (.int .i64 1)), none, none, []⟩,
      ⟨.mv (.l 0), some 15, none, []⟩]))))))) (
  .seq (
  .reg [⟨.mv (.v 6), none, none, []⟩,
    ⟨.mv (.l 0), some 3, none, []⟩,
    ⟨.mv (.c (.int .i64 0)), some 4, none, []⟩,
    ⟨.mv (.c (.int .i64 0)), some 5, none, []⟩]) (
  .ret))))))⟩

theorem c50 : compFn Try.prog 50 = some { X50 with body := strip X50.body } := by kernel_rfl
end Go.Proofs.Ytfpkcjjgooigbaa.L
