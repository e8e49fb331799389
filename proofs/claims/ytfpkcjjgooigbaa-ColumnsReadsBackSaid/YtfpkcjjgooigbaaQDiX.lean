/-
  Chapter 20: stairs and lists read, as the machine takes them (printed).
-/
import Derived.Test.YtfpkcjjgooigbaaProg
import Derived.KernelRfl
import Derived.Test.YtfpkcjjgooigbaaMg4
namespace Go.Proofs.Ytfpkcjjgooigbaa.C
set_option linter.unusedSimpArgs false
set_option linter.unusedVariables false
set_option linter.unusedSectionVars false
open Go.Proofs.Ytfpkcjjgooigbaa.Am
def X27 : XFn :=
 ⟨54, [0, 1, 4, 5, 6, 7, 8, 9, 10, 12, 13, 14, 15, 16, 27, 42], 0, [(2, none), (3, none)],
  .seq (
  .reg [⟨.mv (.c .nils), some 2, none, []⟩,
    ⟨.mv (.c (.bool false)), some 3, none, []⟩]) (
  .seq (
  .reg [⟨.mv (.c .nils), some 4, none, []⟩]) (
  .mat 4 none 1 1 (
  .seq (
  .seq (
  .reg [⟨.mv (.v 0), some 10, none, []⟩,
    ⟨.len false (.l 0), some 11, none, []⟩,
    ⟨.mv (.c (.int .i64 0)), some 12, none, []⟩]) (
  .block 0 (
   .loopS [0, 1, 4, 10, 11, 12] 1 (
    .seq (
    .reg [⟨.bin .lss false (.v 12) (.v 11), some 13, none, []⟩]) (
    .seq (
    .cond (.v 13) (
     .skip) (
     .exit 0)) (
    .seq (
    .block 1 (
     .seq (
     .reg [⟨.mv (.v 12), none, none, []⟩,
       ⟨.indexAddr 1 (.v 10) (.v 12), none, none, []⟩,
       ⟨.load false 1 (.l 1), none, none, []⟩,
       ⟨.mv (.l 0), some 5, none, []⟩,
       ⟨.mv (.l 2), some 6, none, []⟩]) (
     .seq (
     .reg [⟨.mv (.v 5), none, none, []⟩,
       ⟨.mv (.v 1), none, none, []⟩,
       ⟨.bin .rem false (.l 0) (.l 1), none, none, []⟩,
       ⟨.mv (.l 2), some 7, none, []⟩]) (
     .seq (
     .seq (
     .reg [⟨.mv (.v 6), none, none, []⟩,
       ⟨.call 48 [(.l 0)] [(0, 0)] true, none, none, []⟩,
       ⟨.mv (.v 7), none, none, []⟩,
       ⟨.bin .mul false (.c (.int .i64 2)) (.l 2), none, none, []⟩,
       ⟨.bin .neq false (.l 1) (.l 3), some 14, none, []⟩]) (
     .cond (.v 14) (
      .seq (
      .reg [⟨.mv (.c .nils), some 2, none, []⟩,
        ⟨.mv (.c (.bool false)), some 3, none, []⟩]) (
      .ret)) (
      .skip))) (
     .seq (
     .reg [⟨.mv (.v 6), none, none, []⟩,
       ⟨.mv (.v 7), none, none, []⟩,
       ⟨.bin .mul false (.c (.int .i64 2)) (.l 1), none, none, []⟩,
       ⟨.mv (.v 6), none, none, []⟩,
       ⟨.len false (.l 3), none, none, []⟩,
       ⟨.mv (.v 6), none, none, []⟩,
       ⟨.len false (.l 5), none, none, []⟩,
       ⟨.slice false 1 (.l 0) (some (.l 2)) (some (.l 4)) (some (.l 6)), none, none, []⟩,
       ⟨.mv (.l 7), some 8, none, []⟩]) (
     .seq (
     .seq (
     .reg [⟨.mv (.v 8), none, none, []⟩,
       ⟨.call 35 [(.l 0)] [(0, 0), (0, 0)] true, none, none, []⟩,
       ⟨.mv (.l 1), none, none, []⟩,
       ⟨.extract (.l 2) 0, none, none, []⟩,
       ⟨.extract (.l 2) 1, none, none, []⟩,
       ⟨.mv (.l 3), none, none, []⟩,
       ⟨.mv (.l 4), some 9, none, []⟩]) (
     .seq (
     .reg [⟨.mv (.v 9), none, none, []⟩,
       ⟨.un .not (.l 0), some 15, none, []⟩]) (
     .cond (.v 15) (
      .seq (
      .reg [⟨.mv (.c .nils), some 2, none, []⟩,
        ⟨.mv (.c (.bool false)), some 3, none, []⟩]) (
      .ret)) (
      .skip)))) (
     .reg [⟨.mv (.v 4), none, none, []⟩,
       ⟨.mv (.v 7), none, none, []⟩,
       ⟨.mv (.v 8), none, none, []⟩,
       ⟨.callv (.c (.fn (.func 49) [] [])) [(.l 0), (.l 1), (.l 2)], none, none, []⟩,
       ⟨.mv (.l 3), some 4, none, []⟩]))))))) (
    .reg [⟨.bin .add false (.v 12) (.c (.int .i64 1)), none, none, []⟩,
      ⟨.mv (.l 0), some 12, none, []⟩]))))))) (
  .seq (
  .reg [⟨.mv (.v 4), none, none, []⟩,
    ⟨.mv (.v 0), none, none, []⟩,
    ⟨.len false (.l 1), none, none, []⟩,
    ⟨.mv (.v 1), none, none, []⟩,
    ⟨.bin .rem false (.l 2) (.l 3), none, none, []⟩,
    ⟨.bin .eql false (.l 4) (.c (.int .i64 0)), none, none, []⟩,
    ⟨.mv (.l 0), some 2, none, []⟩,
    ⟨.mv (.l 5), some 3, none, []⟩]) (
  .ret)))))⟩

def X28 : XFn :=
 ⟨58, [0, 1, 4, 5, 6, 7, 8, 9, 11, 14, 29, 43], 1, [(2, none), (3, none)],
  .seq (
  .reg [⟨.mv (.c .nils), some 2, none, []⟩,
    ⟨.mv (.c (.bool false)), some 3, none, []⟩]) (
  .seq (
  .reg [⟨.mv (.c .nils), some 4, none, []⟩]) (
  .mat 4 none 1 1 (
  .seq (
  .reg [⟨.mv (.c (.int .i64 0)), some 5, none, []⟩]) (
  .seq (
  .block 0 (
   .loopS [0, 1, 4, 5] 1 (
    .seq (
    .seq (
    .reg [⟨.mv (.v 0), none, none, []⟩,
      ⟨.len false (.l 0), none, none, []⟩,
      ⟨.bin .gtr false (.l 1) (.c (.int .i64 0)), some 9, none, []⟩]) (
    .cond (.v 9) (
     .skip) (
     .exit 0))) (
    .block 1 (
     .seq (
     .reg [⟨.mv (.c (.int .i64 1)), some 6, none, []⟩]) (
     .seq (
     .block 2 (
      .loopS [0, 1, 4, 5, 6] 1 (
       .seq (
       .seq (
       .reg [⟨.mv (.v 6), none, none, []⟩,
         ⟨.mv (.v 0), none, none, []⟩,
         ⟨.len false (.l 1), none, none, []⟩,
         ⟨.bin .lss false (.l 0) (.l 2), none, none, []⟩,
         ⟨.mv (.l 3), none, none, []⟩,
         ⟨.mv (.v 0), none, some ((.l 4), true), []⟩,
         ⟨.mv (.v 6), none, some ((.l 4), true), []⟩,
         ⟨.indexAddr 1 (.l 5) (.l 6), none, some ((.l 4), true), []⟩,
         ⟨.load false 1 (.l 7), none, some ((.l 4), true), []⟩,
         ⟨.call 48 [(.l 8)] [(0, 0)] true, none, some ((.l 4), true), []⟩,
         ⟨.mv (.v 5), none, some ((.l 4), true), []⟩,
         ⟨.call 42 [(.l 10)] [(0, 0), (0, 0)] true, none, some ((.l 4), true), []⟩,
         ⟨.indexA false 2 1 (.l 11) (.c (.int .i64 1)), none, some ((.l 4), true), []⟩,
         ⟨.bin .eql false (.l 9) (.l 12), none, some ((.l 4), true), []⟩,
         ⟨.pick (.l 4) (.l 13) (.c (.bool false)), some 10, none, []⟩]) (
       .cond (.v 10) (
        .skip) (
        .exit 2))) (
       .block 3 (
        .reg [⟨.mv (.v 6), none, none, []⟩,
          ⟨.bin .add false (.l 0) (.c (.int .i64 1)), none, none, []⟩,
          ⟨.mv (.l 1), some 6, none, []⟩]))))) (
     .seq (
     .reg [⟨.mv (.v 0), none, none, []⟩,
       ⟨.mv (.v 6), none, none, []⟩,
       ⟨.slice false 1 (.l 0) none (some (.l 1)) none, none, none, []⟩,
       ⟨.mv (.v 5), none, none, []⟩,
       ⟨.call 42 [(.l 3)] [(0, 0), (0, 0)] false, none, none, []⟩,
       ⟨.call 50 [(.l 2), (.l 4)] [(0, 1), (0, 0), (0, 0)] false, none, none, []⟩,
       ⟨.mv (.l 5), none, none, []⟩,
       ⟨.extract (.l 6) 0, none, none, []⟩,
       ⟨.extract (.l 6) 1, none, none, []⟩,
       ⟨.extract (.l 6) 2, none, none, []⟩,
       ⟨.mv (.l 7), some 7, none, []⟩,
       ⟨.mv (.l 8), none, none, []⟩,
       ⟨.mv (.l 9), some 8, none, []⟩]) (
     .seq (
     .seq (
     .reg [⟨.mv (.v 8), none, none, []⟩,
       ⟨.bin .neq false (.l 0) (.c (.int .i64 0)), some 11, none, []⟩]) (
     .cond (.v 11) (
      .seq (
      .reg [⟨.mv (.c .nils), some 2, none, []⟩,
        ⟨.mv (.c (.bool false)), some 3, none, []⟩]) (
      .ret)) (
      .skip))) (
     .seq (
  .frz [(0, true)] (
  .mat 7 none 0 0 (
     .reg [⟨.mv (.v 4), none, none, []⟩,
       ⟨.mv (.v 5), none, none, []⟩,
       ⟨.mv (.v 7), none, none, []⟩,
       ⟨.callv (.c (.fn (.func 49) [] [])) [(.l 0), (.l 1), (.l 2)], none, none, []⟩,
       ⟨.mv (.l 3), some 4, none, []⟩]))) (
     .seq (
     .reg [⟨.mv (.v 0), none, none, []⟩,
       ⟨.mv (.v 6), none, none, []⟩,
       ⟨.slice false 1 (.l 0) (some (.l 1)) none none, none, none, []⟩,
       ⟨.mv (.l 2), some 0, none, []⟩]) (
     .reg [⟨.mv (.v 5), none, none, []⟩,
       ⟨.bin .add false (.l 0) (.c (.int .i64 1)), none, none, []⟩,
       ⟨.mv (.v 1), none, none, []⟩,
       ⟨.bin .rem false (.l 1) (.l 2), none, none, []⟩,
       ⟨.mv (.l 3), some 5, none, []⟩]))))))))))) (
  .seq (
  .reg [⟨.mv (.v 4), none, none, []⟩,
    ⟨.mv (.v 5), none, none, []⟩,
    ⟨.bin .eql false (.l 1) (.c (.int .i64 0)), none, none, []⟩,
    ⟨.mv (.l 0), some 2, none, []⟩,
    ⟨.mv (.l 2), some 3, none, []⟩]) (
  .ret))))))⟩

def X49 : XFn :=
 ⟨27, [0, 1, 2, 6, 8], 6, [(3, none)],
  .seq (
  .reg [⟨.mv (.c .nils), some 3, none, []⟩]) (
  .seq (
  .seq (
  .reg [⟨.mv (.v 1), none, none, []⟩,
    ⟨.bin .eql false (.l 0) (.c (.int .i64 0)), some 4, none, []⟩]) (
  .cond (.v 4) (
   .reg [⟨.mv (.v 0), none, none, []⟩,
     ⟨.mkarr 2 1 [.nils] [(0, (.c .nils))], none, none, []⟩,
     ⟨.append 3 1 24 1 (.l 0) (.l 1), none, none, []⟩,
     ⟨.mv (.l 2), some 0, none, []⟩]) (
   .skip))) (
  .seq (
  .frz [(2005, true)] (
  .reg [⟨.mv (.v 0), none, none, []⟩,
    ⟨.mv (.v 0), none, none, []⟩,
    ⟨.len false (.l 1), none, none, []⟩,
    ⟨.bin .sub false (.l 2) (.c (.int .i64 1)), none, none, []⟩,
    ⟨.mv (.v 0), none, none, []⟩,
    ⟨.mv (.v 0), none, none, []⟩,
    ⟨.len false (.l 5), none, none, []⟩,
    ⟨.bin .sub false (.l 6) (.c (.int .i64 1)), none, none, []⟩,
    ⟨.indexAddr 1 (.l 4) (.l 7), none, none, []⟩,
    ⟨.load false 1 (.l 8), none, none, []⟩,
    ⟨.mv (.v 2), none, none, []⟩,
    ⟨.mkarr 4 1 [.nils] [(0, (.l 10))], none, none, []⟩,
    ⟨.append 5 1 24 1 (.l 9) (.l 11), none, none, []⟩,
    ⟨.indexAddr 1 (.l 0) (.l 3), none, none, []⟩,
    ⟨.store 1 (.l 13) (.l 12), none, none, []⟩])) (
  .seq (
  .reg [⟨.mv (.v 0), none, none, []⟩,
    ⟨.mv (.l 0), some 3, none, []⟩]) (
  .ret))))⟩

theorem c27 : compFn Try.prog 27 = some { X27 with body := strip X27.body } := by kernel_rfl
theorem c28 : compFn Try.prog 28 = some { X28 with body := strip X28.body } := by kernel_rfl
theorem c49 : compFnAt Try.prog 49 2 = some { X49 with body := strip X49.body } := by kernel_rfl
end Go.Proofs.Ytfpkcjjgooigbaa.C
