/-
  Chapter 28: the functions, as the machine takes them (printed).
-/
import Derived.Test.YtkfjnbljegoomaaProg
import Derived.KernelRfl
import Derived.Test.YtkfjnbljegoomaaMg4
namespace Go.Proofs.Ytkfjnbljegoomaa.J
set_option linter.unusedSimpArgs false
set_option linter.unusedVariables false
set_option linter.unusedSectionVars false
open Go.Proofs.Ytkfjnbljegoomaa.Am
theorem mixed : Try.prog.follows .mixedOrders = true := by kernel_rfl
def X10 : XFn :=
 ⟨46, [0, 1, 4, 5, 6, 16], 3, [(2, none)],
  .seq (
  .reg [⟨.mv (.c .nils), some 2, none, []⟩]) (
  .seq (
  .reg [⟨.mkarr 0 3 [] [], none, none, []⟩,
    ⟨.mv (.l 0), some 3, none, []⟩]) (
  .seq (
  .seq (
  .reg [⟨.mv (.c (.int .i64 0)), some 4, none, []⟩]) (
  .block 0 (
   .loopS [0, 1, 3, 4] 3 (
    .seq (
    .seq (
    .reg [⟨.mv (.v 4), none, none, []⟩,
      ⟨.mv (.v 0), none, none, []⟩,
      ⟨.len false (.l 1), none, none, []⟩,
      ⟨.bin .lss false (.l 0) (.l 2), none, none, []⟩,
      ⟨.mv (.l 3), none, none, []⟩,
      ⟨.mv (.v 4), none, some ((.l 4), true), []⟩,
      ⟨.mv (.v 1), none, some ((.l 4), true), []⟩,
      ⟨.bin .lss false (.l 5) (.l 6), none, some ((.l 4), true), []⟩,
      ⟨.pick (.l 4) (.l 7) (.c (.bool false)), some 5, none, []⟩]) (
    .cond (.v 5) (
     .skip) (
     .exit 0))) (
    .seq (
    .block 1 (
     .reg [⟨.mv (.v 3), none, none, [1]⟩,
       ⟨.mv (.v 0), none, none, []⟩,
       ⟨.mv (.v 4), none, none, []⟩,
       ⟨.indexAddr 3 (.l 1) (.l 2), none, none, []⟩,
       ⟨.fieldAddr 0 (.l 3), none, none, []⟩,
       ⟨.load false 1 (.l 4), none, none, []⟩,
       ⟨.bin .rem false (.l 5) (.c (.int .u8 5)), none, none, []⟩,
       ⟨.conv .i64 (.l 6), none, none, []⟩,
       ⟨.bin .add false (.c (.int .i64 1)) (.l 7), none, none, []⟩,
       ⟨.mv (.v 0), none, none, []⟩,
       ⟨.mv (.v 4), none, none, []⟩,
       ⟨.indexAddr 3 (.l 9) (.l 10), none, none, []⟩,
       ⟨.fieldAddr 1 (.l 11), none, none, []⟩,
       ⟨.load false 1 (.l 12), none, none, []⟩,
       ⟨.bin .rem false (.l 13) (.c (.int .u32 2147483648)), none, none, []⟩,
       ⟨.conv .i64 (.l 14), none, none, []⟩,
       ⟨.mv (.v 0), none, none, []⟩,
       ⟨.mv (.v 4), none, none, []⟩,
       ⟨.indexAddr 3 (.l 16) (.l 17), none, none, []⟩,
       ⟨.fieldAddr 2 (.l 18), none, none, []⟩,
       ⟨.load false 1 (.l 19), none, none, []⟩,
       ⟨.bin .rem false (.l 20) (.c (.int .u32 2147483648)), none, none, []⟩,
       ⟨.conv .i64 (.l 21), none, none, []⟩,
       ⟨.build [(.int .i64 0), (.int .i64 0), (.int .i64 0)] [(0, 1, (.l 8)), (1, 1, (.l 15)), (2, 1, (.l 22))], none, none, []⟩,
       ⟨.mkarr 1 3 [(.agg [(.int .i64 0), (.int .i64 0), (.int .i64 0)])] [(0, (.l 23))], none, none, []⟩,
       ⟨.append 2 3 24 1 (.l 0) (.l 24), none, none, []⟩,
       ⟨.mv (.l 25), some 3, none, []⟩])) (
    .reg [⟨.mv (.v 4), none, none, []⟩,
      ⟨.bin .add false (.l 0) (.c (.int .i64 1)), none, none, []⟩,
      ⟨.mv (.l 1), some 4, none, []⟩])))))) (
  .seq (
  .reg [⟨.mv (.v 3), none, none, []⟩,
    ⟨.mv (.l 0), some 2, none, []⟩]) (
  .ret))))⟩

def X11 : XFn :=
 ⟨19, [0, 2, 3, 4, 9], 2, [(1, none)],
  .seq (
  .reg [⟨.mv (.c .nils), some 1, none, []⟩]) (
  .seq (
  .reg [⟨.mkarr 0 1 [] [], none, none, []⟩,
    ⟨.mv (.l 0), some 2, none, []⟩]) (
  .seq (
  .seq (
  .reg [⟨.mv (.c (.int .i64 0)), some 3, none, []⟩]) (
  .block 0 (
   .loopS [0, 2, 3] 2 (
    .seq (
    .seq (
    .reg [⟨.mv (.v 3), none, none, []⟩,
      ⟨.mv (.v 0), none, none, []⟩,
      ⟨.len false (.l 1), none, none, []⟩,
      ⟨.bin .lss false (.l 0) (.l 2), some 4, none, []⟩]) (
    .cond (.v 4) (
     .skip) (
     .exit 0))) (
    .seq (
    .block 1 (
     .reg [⟨.mv (.v 2), none, none, []⟩,
       ⟨.mv (.v 0), none, none, []⟩,
       ⟨.mv (.v 3), none, none, []⟩,
       ⟨.indexAddr 3 (.l 1) (.l 2), none, none, []⟩,
       ⟨.load true 3 (.l 3), none, none, []⟩,
       ⟨.call 16 [(.l 0), (.l 4)] [(1, 1)] true, none, none, []⟩,
       ⟨.mv (.l 5), some 2, none, []⟩])) (
    .reg [⟨.mv (.v 3), none, none, []⟩,
      ⟨.bin .add false (.l 0) (.c (.int .i64 1)), none, none, []⟩,
      ⟨.mv (.l 1), some 3, none, []⟩])))))) (
  .seq (
  .reg [⟨.mv (.v 2), none, none, []⟩,
    ⟨.mv (.l 0), some 1, none, []⟩]) (
  .ret))))⟩

def X12 : XFn :=
 ⟨19, [0, 2, 3, 4, 9], 2, [(1, none)],
  .seq (
  .reg [⟨.mv (.c .nils), some 1, none, []⟩]) (
  .seq (
  .reg [⟨.mkarr 0 1 [] [], none, none, []⟩,
    ⟨.mv (.l 0), some 2, none, []⟩]) (
  .seq (
  .seq (
  .reg [⟨.mv (.c (.int .i64 0)), some 3, none, []⟩]) (
  .block 0 (
   .loopS [0, 2, 3] 2 (
    .seq (
    .seq (
    .reg [⟨.mv (.v 3), none, none, []⟩,
      ⟨.mv (.v 0), none, none, []⟩,
      ⟨.len false (.l 1), none, none, []⟩,
      ⟨.bin .lss false (.l 0) (.l 2), some 4, none, []⟩]) (
    .cond (.v 4) (
     .skip) (
     .exit 0))) (
    .seq (
    .block 1 (
     .reg [⟨.mv (.v 2), none, none, []⟩,
       ⟨.mv (.v 0), none, none, []⟩,
       ⟨.mv (.v 3), none, none, []⟩,
       ⟨.indexAddr 3 (.l 1) (.l 2), none, none, []⟩,
       ⟨.load true 3 (.l 3), none, none, []⟩,
       ⟨.call 19 [(.l 0), (.l 4)] [(1, 1)] true, none, none, []⟩,
       ⟨.mv (.l 5), some 2, none, []⟩])) (
    .reg [⟨.mv (.v 3), none, none, []⟩,
      ⟨.bin .add false (.l 0) (.c (.int .i64 1)), none, none, []⟩,
      ⟨.mv (.l 1), some 3, none, []⟩])))))) (
  .seq (
  .reg [⟨.mv (.v 2), none, none, []⟩,
    ⟨.mv (.l 0), some 1, none, []⟩]) (
  .ret))))⟩

def X13 : XFn :=
 ⟨17, [0, 2, 3, 4, 5, 7, 8], 4, [(1, none), (2, none)],
  .seq (
  .reg [⟨.mv (.c .nils), some 1, none, []⟩,
    ⟨.mv (.c (.int .i64 0)), some 2, none, []⟩]) (
  .seq (
  .reg [⟨.alloc 0 [.nils], some 3, none, []⟩]) (
  .mat 3 (some 0) 3 3 (
  .seq (
  .seq (
  .reg [⟨.mv (.v 0), none, none, []⟩,
    ⟨.callv (.c (.fn (.func 20) [] [])) [(.l 0)], some 5, none, []⟩]) (
  .block 0 (
   .rfor (.v 5) [(some 6)] (
    .reg [⟨.alloc 1 [(.int .i64 0), (.int .i64 0), (.int .i64 0)], some 4, none, []⟩,
      ⟨.store 3 (.l 0) (.v 6), none, none, []⟩]) (
    .block 1 (
     .reg [⟨.load false 1 (.v 3), none, none, []⟩,
       ⟨.load true 3 (.v 4), none, none, []⟩,
       ⟨.mkarr 2 3 [(.agg [(.int .i64 0), (.int .i64 0), (.int .i64 0)])] [(0, (.l 1))], none, none, []⟩,
       ⟨.append 3 3 24 1 (.l 0) (.l 2), none, none, []⟩,
       ⟨.store 1 (.v 3) (.l 3), none, none, []⟩]))))) (
  .seq (
  .reg [⟨.load false 1 (.v 3), none, none, []⟩,
    ⟨.load false 1 (.v 3), none, none, []⟩,
    ⟨.len false (.l 1), none, none, []⟩,
    ⟨.bin .mul false (.l 2) (.c (.int .i64 11)), none, none, []⟩,
    ⟨.mv (.l 0), some 1, none, []⟩,
    ⟨.mv (.l 3), some 2, none, []⟩]) (
  .ret)))))⟩

def X14 : XFn :=
 ⟨58, [0, 2, 3, 4, 5, 6, 7, 8, 16, 49], 5, [(1, none), (2, none)],
  .seq (
  .reg [⟨.mv (.c .nils), some 1, none, []⟩,
    ⟨.mv (.c (.int .i64 0)), some 2, none, []⟩]) (
  .seq (
  .reg [⟨.mkarr 0 3 [] [], none, none, []⟩,
    ⟨.mv (.l 0), some 3, none, []⟩]) (
  .seq (
  .block 0 (
   .loopS [0, 3] 5 (
    .seq (
    .seq (
    .reg [⟨.mv (.v 0), none, none, []⟩,
      ⟨.len false (.l 0), none, none, []⟩,
      ⟨.mv (.v 3), none, none, []⟩,
      ⟨.len false (.l 2), none, none, []⟩,
      ⟨.bin .add false (.l 3) (.c (.int .i64 1)), none, none, []⟩,
      ⟨.bin .mul false (.c (.int .i64 11)) (.l 4), none, none, []⟩,
      ⟨.bin .geq false (.l 1) (.l 5), some 8, none, []⟩]) (
    .cond (.v 8) (
     .skip) (
     .exit 0))) (
    .block 1 (
     .seq (
     .reg [⟨.mv (.v 3), none, none, []⟩,
       ⟨.len false (.l 0), none, none, []⟩,
       ⟨.bin .mul false (.c (.int .i64 11)) (.l 1), none, none, []⟩,
       ⟨.mv (.l 2), some 4, none, []⟩]) (
     .seq (
     .reg [⟨.mv (.v 0), none, none, []⟩,
       ⟨.mv (.v 4), none, none, []⟩,
       ⟨.mv (.v 4), none, none, []⟩,
       ⟨.bin .add false (.l 2) (.c (.int .i64 11)), none, none, []⟩,
       ⟨.slice false 1 (.l 0) (some (.l 1)) (some (.l 3)) none, none, none, []⟩,
       ⟨.mv (.l 4), some 5, none, []⟩]) (
     .seq (
     .reg [⟨.mv (.v 5), none, none, [1]⟩,
       ⟨.indexAddr 1 (.l 0) (.c (.int .i64 0)), none, none, [1]⟩,
       ⟨.load false 1 (.l 1), none, none, [1]⟩,
       ⟨.conv .i64 (.l 2), none, none, [1]⟩,
       ⟨.mv (.v 5), none, none, [1]⟩,
       ⟨.slice false 1 (.l 4) (some (.c (.int .i64 1))) (some (.c (.int .i64 5))) none, none, none, [1]⟩,
       ⟨.call 21 [(.l 5)] [(0, 0)] false, none, none, [1]⟩,
       ⟨.mv (.v 5), none, none, [1]⟩,
       ⟨.slice false 1 (.l 7) (some (.c (.int .i64 5))) (some (.c (.int .i64 9))) none, none, none, [1]⟩,
       ⟨.call 21 [(.l 8)] [(0, 0)] false, none, none, [1]⟩,
       ⟨.build [(.int .i64 0), (.int .i64 0), (.int .i64 0)] [(0, 1, (.l 3)), (1, 1, (.l 6)), (2, 1, (.l 9))], none, none, [1]⟩,
       ⟨.alloc 1 [(.int .i64 0), (.int .i64 0), (.int .i64 0)], some 6, none, []⟩,
       ⟨.store 3 (.l 11) (.l 10), none, none, []⟩]) (
     .seq (
     .reg [⟨.load true 3 (.v 6), none, none, []⟩,
       ⟨.call 22 [(.l 0)] [(0, 0)] true, none, none, []⟩,
       ⟨.mv (.l 1), some 7, none, []⟩]) (
     .seq (
     .seq (
     .reg [⟨.mv (.v 7), none, none, []⟩,
       ⟨.un .not (.l 0), none, none, []⟩,
       ⟨.mv (.l 1), none, none, []⟩,
       ⟨.load true 3 (.v 6), none, some ((.l 2), false), []⟩,
       ⟨.mv (.v 3), none, some ((.l 2), false), []⟩,
       ⟨.len false (.l 4), none, some ((.l 2), false), []⟩,
       ⟨.call 18 [(.l 3), (.l 5)] [(2, 1)] false, none, some ((.l 2), false), []⟩,
       ⟨.convStr (.l 6), none, some ((.l 2), false), []⟩,
       ⟨.mv (.v 5), none, some ((.l 2), false), [2]⟩,
       ⟨.convStr (.l 8), none, some ((.l 2), false), [2]⟩,
       ⟨.bin .neq false (.l 7) (.l 9), none, some ((.l 2), false), []⟩,
       ⟨.pick (.l 2) (.c (.bool true)) (.l 10), some 9, none, []⟩]) (
     .cond (.v 9) (
      .exit 0) (
      .skip))) (
     .reg [⟨.mv (.v 3), none, none, []⟩,
       ⟨.load true 3 (.v 6), none, none, []⟩,
       ⟨.mkarr 3 3 [(.agg [(.int .i64 0), (.int .i64 0), (.int .i64 0)])] [(0, (.l 1))], none, none, []⟩,
       ⟨.append 4 3 24 1 (.l 0) (.l 2), none, none, []⟩,
       ⟨.mv (.l 3), some 3, none, []⟩])))))))))) (
  .seq (
  .reg [⟨.mv (.v 3), none, none, []⟩,
    ⟨.mv (.v 3), none, none, []⟩,
    ⟨.len false (.l 1), none, none, []⟩,
    ⟨.bin .mul false (.c (.int .i64 11)) (.l 2), none, none, []⟩,
    ⟨.mv (.l 0), some 1, none, []⟩,
    ⟨.mv (.l 3), some 2, none, []⟩]) (
  .ret))))⟩

def X15 : XFn :=
 ⟨26, [0, 1, 4, 5, 10, 14, 25], 0, [(2, none)],
  .seq (
  .reg [⟨.mv (.c (.bool false)), some 2, none, []⟩]) (
  .seq (
  .seq (
  .reg [⟨.mv (.v 0), none, none, []⟩,
    ⟨.len false (.l 0), none, none, []⟩,
    ⟨.mv (.v 1), none, none, []⟩,
    ⟨.len false (.l 2), none, none, []⟩,
    ⟨.bin .neq false (.l 1) (.l 3), some 4, none, []⟩]) (
  .cond (.v 4) (
   .seq (
   .reg [⟨.mv (.c (.bool false)), some 2, none, []⟩]) (
   .ret)) (
   .skip))) (
  .seq (
  .seq (
  .reg [⟨.mv (.c (.int .i64 0)), some 3, none, []⟩]) (
  .block 0 (
   .loopS [0, 1, 3] 0 (
    .seq (
    .seq (
    .reg [⟨.mv (.v 3), none, none, []⟩,
      ⟨.mv (.v 0), none, none, []⟩,
      ⟨.len false (.l 1), none, none, []⟩,
      ⟨.bin .lss false (.l 0) (.l 2), some 5, none, []⟩]) (
    .cond (.v 5) (
     .skip) (
     .exit 0))) (
    .seq (
    .block 1 (
     .seq (
     .reg [⟨.mv (.v 0), none, none, []⟩,
       ⟨.mv (.v 3), none, none, []⟩,
       ⟨.indexAddr 3 (.l 0) (.l 1), none, none, []⟩,
       ⟨.load true 3 (.l 2), none, none, []⟩,
       ⟨.mv (.v 1), none, none, []⟩,
       ⟨.mv (.v 3), none, none, []⟩,
       ⟨.indexAddr 3 (.l 4) (.l 5), none, none, []⟩,
       ⟨.load true 3 (.l 6), none, none, []⟩,
       ⟨.eqS true [1, 1, 1] (.l 3) (.l 7), some 6, none, []⟩]) (
     .cond (.v 6) (
      .seq (
      .reg [⟨.mv (.c (.bool false)), some 2, none, []⟩]) (
      .ret)) (
      .skip)))) (
    .reg [⟨.mv (.v 3), none, none, []⟩,
      ⟨.bin .add false (.l 0) (.c (.int .i64 1)), none, none, []⟩,
      ⟨.mv (.l 1), some 3, none, []⟩])))))) (
  .seq (
  .reg [⟨.mv (.c (.bool true)), some 2, none, []⟩]) (
  .ret))))⟩

def X16 : XFn :=
 ⟨22, [0, 1, 3, 4, 5, 6], 5, [(3, none)],
  .seq (
  .reg [⟨.box 0 (.v 1), some 2, none, []⟩,
    ⟨.mv (.c .nils), some 3, none, []⟩]) (
  .seq (
  .reg [⟨.mv (.v 0), none, none, []⟩,
    ⟨.len false (.l 0), none, none, []⟩,
    ⟨.bin .quo false (.l 1) (.c (.int .i64 11)), none, none, []⟩,
    ⟨.load true 3 (.v 2), none, none, []⟩,
    ⟨.call 23 [(.l 2), (.l 3)] [(0, 0), (0, 0), (0, 0), (0, 0), (0, 0), (0, 0), (0, 0), (0, 0), (0, 0), (0, 0), (0, 0)] true, none, none, []⟩,
    ⟨.allocA 1 [(.int .u8 0), (.int .u8 0), (.int .u8 0), (.int .u8 0), (.int .u8 0), (.int .u8 0), (.int .u8 0), (.int .u8 0), (.int .u8 0), (.int .u8 0), (.int .u8 0)], some 4, none, []⟩,
    ⟨.storeA 11 (.l 5) (.l 4), none, none, []⟩]) (
  .seq (
  .reg [⟨.mv (.v 0), none, none, []⟩,
    ⟨.len false (.l 0), none, none, []⟩,
    ⟨.bin .add false (.l 1) (.c (.int .i64 11)), none, none, []⟩,
    ⟨.makeSlice 2 1 1 (.int .u8 0) (.c (.int .i64 0)) (.l 2), none, none, []⟩,
    ⟨.mv (.l 3), some 5, none, []⟩]) (
  .seq (
  .reg [⟨.mv (.v 5), none, none, []⟩,
    ⟨.mv (.v 0), none, none, []⟩,
    ⟨.append 3 1 1 0 (.l 0) (.l 1), none, none, []⟩,
    ⟨.mv (.l 2), some 5, none, []⟩]) (
  .seq (
  .reg [⟨.mv (.v 5), none, none, []⟩,
    ⟨.sliceA 11 (.v 4) none none, none, none, []⟩,
    ⟨.append 4 1 1 0 (.l 0) (.l 1), none, none, []⟩,
    ⟨.mv (.l 2), some 3, none, []⟩]) (
  .ret)))))⟩

def X17 : XFn :=
 ⟨14, [0, 2, 4], 2, [(1, none)],
  .seq (
  .reg [⟨.mv (.c .nils), some 1, none, []⟩]) (
  .seq (
  .reg [⟨.mv (.v 0), none, none, []⟩,
    ⟨.call 13 [(.l 0)] [(0, 3), (0, 0)] true, none, none, []⟩,
    ⟨.mv (.l 1), none, none, []⟩,
    ⟨.extract (.l 2) 0, none, none, []⟩,
    ⟨.extract (.l 2) 1, none, none, []⟩,
    ⟨.mv (.l 3), none, none, []⟩,
    ⟨.mv (.l 4), some 2, none, []⟩]) (
  .seq (
  .reg [⟨.mv (.v 0), none, none, []⟩,
    ⟨.mv (.v 2), none, none, []⟩,
    ⟨.slice false 1 (.l 0) none (some (.l 1)) none, none, none, []⟩,
    ⟨.call 24 [(.l 2)] [(1, 1)] true, none, none, []⟩,
    ⟨.mv (.l 3), some 1, none, []⟩]) (
  .ret)))⟩

def X18 : XFn :=
 ⟨38, [0, 1, 2, 4, 5, 6, 7], 8, [(3, none)],
  .seq (
  .reg [⟨.box 0 (.v 0), some 2, none, []⟩,
    ⟨.mv (.c .nils), some 3, none, []⟩]) (
  .seq (
  .reg [⟨.mkarr 1 1 [] [], none, none, []⟩,
    ⟨.fieldAddr 0 (.v 2), none, none, []⟩,
    ⟨.load false 1 (.l 1), none, none, []⟩,
    ⟨.conv .u8 (.l 2), none, none, []⟩,
    ⟨.mkarr 2 1 [(.int .u8 0)] [(0, (.l 3))], none, none, []⟩,
    ⟨.append 3 1 1 1 (.l 0) (.l 4), none, none, []⟩,
    ⟨.mv (.l 5), some 4, none, []⟩]) (
  .seq (
  .reg [⟨.mv (.v 4), none, none, []⟩,
    ⟨.fieldAddr 1 (.v 2), none, none, []⟩,
    ⟨.load false 1 (.l 1), none, none, []⟩,
    ⟨.callv (.c (.fn (.func 25) [] [])) [(.l 0), (.l 2)], none, none, []⟩,
    ⟨.mv (.l 3), some 4, none, []⟩]) (
  .seq (
  .reg [⟨.mv (.v 4), none, none, []⟩,
    ⟨.fieldAddr 2 (.v 2), none, none, []⟩,
    ⟨.load false 1 (.l 1), none, none, []⟩,
    ⟨.callv (.c (.fn (.func 25) [] [])) [(.l 0), (.l 2)], none, none, []⟩,
    ⟨.mv (.l 3), some 4, none, []⟩]) (
  .seq (
  .reg [⟨.mkarr 4 1 [] [], none, none, []⟩,
    ⟨.mv (.v 1), none, none, []⟩,
    ⟨.callv (.c (.fn (.func 25) [] [])) [(.l 0), (.l 1)], none, none, []⟩,
    ⟨.mv (.l 2), some 5, none, []⟩]) (
  .seq (
  .reg [⟨.mv (.v 5), none, none, []⟩,
    ⟨.mv (.v 4), none, none, []⟩,
    ⟨.append 5 1 1 0 (.l 0) (.l 1), none, none, []⟩,
    ⟨.mv (.l 2), some 5, none, []⟩]) (
  .seq (
  .reg [⟨.mv (.v 5), none, none, []⟩,
    ⟨.call 26 [(.l 0)] [(0, 0)] true, none, none, []⟩,
    ⟨.mv (.l 1), some 6, none, []⟩]) (
  .seq (
  .reg [⟨.mv (.v 4), none, none, []⟩,
    ⟨.mv (.v 6), none, none, []⟩,
    ⟨.bin .quo false (.l 1) (.c (.int .u32 256)), none, none, []⟩,
    ⟨.conv .u8 (.l 2), none, none, []⟩,
    ⟨.mv (.v 6), none, none, []⟩,
    ⟨.conv .u8 (.l 4), none, none, []⟩,
    ⟨.mkarr 6 1 [(.int .u8 0), (.int .u8 0)] [(0, (.l 3)), (1, (.l 5))], none, none, []⟩,
    ⟨.append 7 1 1 1 (.l 0) (.l 6), none, none, []⟩,
    ⟨.mv (.l 7), some 3, none, []⟩]) (
  .ret))))))))⟩

def X19 : XFn :=
 ⟨16, [0, 1, 3, 4, 5], 5, [(3, none)],
  .seq (
  .reg [⟨.box 0 (.v 1), some 2, none, []⟩,
    ⟨.mv (.c .nils), some 3, none, []⟩]) (
  .seq (
  .reg [⟨.mkarr 1 1 [] [], none, none, []⟩,
    ⟨.mv (.v 0), none, none, []⟩,
    ⟨.append 1 1 1 2 (.l 0) (.l 1), none, none, []⟩,
    ⟨.mv (.l 2), some 4, none, []⟩]) (
  .seq (
  .reg [⟨.mv (.v 4), none, none, []⟩,
    ⟨.load true 3 (.v 2), none, none, []⟩,
    ⟨.mv (.v 0), none, none, []⟩,
    ⟨.len false (.l 2), none, none, []⟩,
    ⟨.bin .quo false (.l 3) (.c (.int .i64 11)), none, none, []⟩,
    ⟨.call 18 [(.l 1), (.l 4)] [(3, 1)] true, none, none, []⟩,
    ⟨.append 4 1 1 0 (.l 0) (.l 5), none, none, []⟩,
    ⟨.mv (.l 6), some 3, none, []⟩]) (
  .ret)))⟩

def X21 : XFn :=
 ⟨25, [0, 2], 0, [(1, none)],
  .seq (
  .reg [⟨.mv (.c (.int .i64 0)), some 1, none, []⟩]) (
  .seq (
  .reg [⟨.mv (.v 0), none, none, []⟩,
    ⟨.indexAddr 1 (.l 0) (.c (.int .i64 0)), none, none, []⟩,
    ⟨.load false 1 (.l 1), none, none, []⟩,
    ⟨.conv .i64 (.l 2), none, none, []⟩,
    ⟨.bin .shl false (.l 3) (.c (.int .u64 24)), none, none, []⟩,
    ⟨.mv (.v 0), none, none, []⟩,
    ⟨.indexAddr 1 (.l 5) (.c (.int .i64 1)), none, none, []⟩,
    ⟨.load false 1 (.l 6), none, none, []⟩,
    ⟨.conv .i64 (.l 7), none, none, []⟩,
    ⟨.bin .shl false (.l 8) (.c (.int .u64 16)), none, none, []⟩,
    ⟨.bin .or false (.l 4) (.l 9), none, none, []⟩,
    ⟨.mv (.v 0), none, none, []⟩,
    ⟨.indexAddr 1 (.l 11) (.c (.int .i64 2)), none, none, []⟩,
    ⟨.load false 1 (.l 12), none, none, []⟩,
    ⟨.conv .i64 (.l 13), none, none, []⟩,
    ⟨.bin .shl false (.l 14) (.c (.int .u64 8)), none, none, []⟩,
    ⟨.bin .or false (.l 10) (.l 15), none, none, []⟩,
    ⟨.mv (.v 0), none, none, []⟩,
    ⟨.indexAddr 1 (.l 17) (.c (.int .i64 3)), none, none, []⟩,
    ⟨.load false 1 (.l 18), none, none, []⟩,
    ⟨.conv .i64 (.l 19), none, none, []⟩,
    ⟨.bin .or false (.l 16) (.l 20), none, none, []⟩,
    ⟨.mv (.l 21), some 1, none, []⟩]) (
  .ret))⟩

def X22 : XFn :=
 ⟨31, [0, 1, 2], 1, [(2, none)],
  .seq (
  .reg [⟨.box 0 (.v 0), some 1, none, []⟩,
    ⟨.mv (.c (.bool false)), some 2, none, []⟩]) (
  .seq (
  .reg [⟨.fieldAddr 0 (.v 1), none, none, []⟩,
    ⟨.load false 1 (.l 0), none, none, []⟩,
    ⟨.bin .geq false (.l 1) (.c (.int .i64 1)), none, none, []⟩,
    ⟨.mv (.l 2), none, none, []⟩,
    ⟨.fieldAddr 0 (.v 1), none, some ((.l 3), true), []⟩,
    ⟨.load false 1 (.l 4), none, some ((.l 3), true), []⟩,
    ⟨.bin .leq false (.l 5) (.c (.int .i64 5)), none, some ((.l 3), true), []⟩,
    ⟨.pick (.l 3) (.l 6) (.c (.bool false)), none, none, []⟩,
    ⟨.mv (.l 7), none, none, []⟩,
    ⟨.fieldAddr 1 (.v 1), none, some ((.l 8), true), []⟩,
    ⟨.load false 1 (.l 9), none, some ((.l 8), true), []⟩,
    ⟨.bin .geq false (.l 10) (.c (.int .i64 0)), none, some ((.l 8), true), []⟩,
    ⟨.pick (.l 8) (.l 11) (.c (.bool false)), none, none, []⟩,
    ⟨.mv (.l 12), none, none, []⟩,
    ⟨.fieldAddr 1 (.v 1), none, some ((.l 13), true), []⟩,
    ⟨.load false 1 (.l 14), none, some ((.l 13), true), []⟩,
    ⟨.bin .lss false (.l 15) (.c (.int .i64 2147483648)), none, some ((.l 13), true), []⟩,
    ⟨.pick (.l 13) (.l 16) (.c (.bool false)), none, none, []⟩,
    ⟨.mv (.l 17), none, none, []⟩,
    ⟨.fieldAddr 2 (.v 1), none, some ((.l 18), true), []⟩,
    ⟨.load false 1 (.l 19), none, some ((.l 18), true), []⟩,
    ⟨.bin .geq false (.l 20) (.c (.int .i64 0)), none, some ((.l 18), true), []⟩,
    ⟨.pick (.l 18) (.l 21) (.c (.bool false)), none, none, []⟩,
    ⟨.mv (.l 22), none, none, []⟩,
    ⟨.fieldAddr 2 (.v 1), none, some ((.l 23), true), []⟩,
    ⟨.load false 1 (.l 24), none, some ((.l 23), true), []⟩,
    ⟨.bin .lss false (.l 25) (.c (.int .i64 2147483648)), none, some ((.l 23), true), []⟩,
    ⟨.pick (.l 23) (.l 26) (.c (.bool false)), none, none, []⟩,
    ⟨.mv (.l 27), some 2, none, []⟩]) (
  .ret))⟩

def X23 : XFn :=
 ⟨40, [0, 1, 3, 4, 5, 6, 7, 8, 9], 6, [(3, some (true, 11))],
  .seq (
  .reg [⟨.box 0 (.v 1), some 2, none, []⟩,
    ⟨.allocA 1 [(.int .u8 0), (.int .u8 0), (.int .u8 0), (.int .u8 0), (.int .u8 0), (.int .u8 0), (.int .u8 0), (.int .u8 0), (.int .u8 0), (.int .u8 0), (.int .u8 0)], some 3, none, []⟩]) (
  .seq (
  .reg [⟨.allocA 2 [(.int .u8 0), (.int .u8 0), (.int .u8 0), (.int .u8 0), (.int .u8 0), (.int .u8 0), (.int .u8 0), (.int .u8 0), (.int .u8 0), (.int .u8 0), (.int .u8 0)], some 4, none, []⟩]) (
  .seq (
  .reg [⟨.mv (.v 0), none, none, [3, 4, 5]⟩,
    ⟨.call 29 [(.l 0)] [(0, 0), (0, 0), (0, 0), (0, 0)] false, none, none, [3, 4, 5]⟩,
    ⟨.fieldAddr 1 (.v 2), none, none, [3, 4, 5]⟩,
    ⟨.load false 1 (.l 2), none, none, [3, 4, 5]⟩,
    ⟨.call 29 [(.l 3)] [(0, 0), (0, 0), (0, 0), (0, 0)] false, none, none, [3, 4, 5]⟩,
    ⟨.fieldAddr 2 (.v 2), none, none, [3, 4, 5]⟩,
    ⟨.load false 1 (.l 5), none, none, [3, 4, 5]⟩,
    ⟨.call 29 [(.l 6)] [(0, 0), (0, 0), (0, 0), (0, 0)] false, none, none, [3, 4, 5]⟩,
    ⟨.allocA 3 [(.int .u8 0), (.int .u8 0), (.int .u8 0), (.int .u8 0)], some 5, none, [4, 5]⟩,
    ⟨.allocA 4 [(.int .u8 0), (.int .u8 0), (.int .u8 0), (.int .u8 0)], some 6, none, [3, 5]⟩,
    ⟨.allocA 5 [(.int .u8 0), (.int .u8 0), (.int .u8 0), (.int .u8 0)], some 7, none, [3, 4]⟩,
    ⟨.storeA 4 (.l 8) (.l 1), none, none, []⟩,
    ⟨.storeA 4 (.l 9) (.l 4), none, none, []⟩,
    ⟨.storeA 4 (.l 10) (.l 7), none, none, []⟩]) (
  .seq (
  .reg [⟨.fieldAddr 0 (.v 2), none, none, []⟩,
    ⟨.load false 1 (.l 0), none, none, []⟩,
    ⟨.conv .u8 (.l 1), none, none, []⟩,
    ⟨.indexAddrA 11 1 (.v 4) (.c (.int .i64 0)), none, none, []⟩,
    ⟨.store 1 (.l 3) (.l 2), none, none, []⟩]) (
  .seq (
  .reg [⟨.sliceA 11 (.v 4) (some (.c (.int .i64 1))) (some (.c (.int .i64 5))), none, none, []⟩,
    ⟨.sliceA 4 (.v 6) none none, none, none, []⟩,
    ⟨.copy 1 (.l 0) (.l 1), none, none, []⟩]) (
  .seq (
  .reg [⟨.sliceA 11 (.v 4) (some (.c (.int .i64 5))) (some (.c (.int .i64 9))), none, none, []⟩,
    ⟨.sliceA 4 (.v 7) none none, none, none, []⟩,
    ⟨.copy 1 (.l 0) (.l 1), none, none, []⟩]) (
  .seq (
  .reg [⟨.sliceA 4 (.v 5) none none, none, none, []⟩,
    ⟨.sliceA 11 (.v 4) none (some (.c (.int .i64 9))), none, none, []⟩,
    ⟨.lit 1 [.nils, .nils] [(0, (.l 0)), (1, (.l 1))], none, none, []⟩,
    ⟨.call 30 [(.l 2)] [(0, 0)] false, none, none, []⟩,
    ⟨.mv (.l 3), some 8, none, []⟩]) (
  .seq (
  .reg [⟨.mv (.v 8), none, none, []⟩,
    ⟨.bin .shr false (.l 0) (.c (.int .u64 8)), none, none, []⟩,
    ⟨.conv .u8 (.l 1), none, none, []⟩,
    ⟨.mv (.v 8), none, none, []⟩,
    ⟨.conv .u8 (.l 3), none, none, []⟩,
    ⟨.indexAddrA 11 1 (.v 4) (.c (.int .i64 9)), none, none, []⟩,
    ⟨.store 1 (.l 5) (.l 2), none, none, []⟩,
    ⟨.indexAddrA 11 1 (.v 4) (.c (.int .i64 10)), none, none, []⟩,
    ⟨.store 1 (.l 7) (.l 4), none, none, []⟩]) (
  .seq (
  .reg [⟨.loadA 11 (.v 4), none, none, []⟩,
    ⟨.storeA 11 (.v 3) (.l 0), none, none, []⟩]) (
  .ret)))))))))⟩

def X24 : XFn :=
 ⟨8, [0, 2, 4], 2, [(1, none)],
  .seq (
  .reg [⟨.mv (.c .nils), some 1, none, []⟩]) (
  .seq (
  .seq (
  .reg [⟨.mv (.v 0), none, none, []⟩,
    ⟨.eqNil false (.l 0) (.c .nils), some 2, none, []⟩]) (
  .cond (.v 2) (
   .seq (
   .reg [⟨.mv (.c .nils), some 1, none, []⟩]) (
   .ret)) (
   .skip))) (
  .seq (
  .reg [⟨.mkarr 0 1 [] [], none, none, []⟩,
    ⟨.mv (.v 0), none, none, []⟩,
    ⟨.append 0 1 1 2 (.l 0) (.l 1), none, none, []⟩,
    ⟨.mv (.l 2), some 1, none, []⟩]) (
  .ret)))⟩

def X26 : XFn :=
 ⟨36, [0, 2, 3, 4, 5, 6, 10, 14, 32], 0, [(1, none)],
  .seq (
  .reg [⟨.mv (.c (.int .u32 0)), some 1, none, []⟩]) (
  .seq (
  .reg [⟨.mv (.c (.int .u32 65535)), some 2, none, []⟩]) (
  .seq (
  .seq (
  .reg [⟨.mv (.c (.int .i64 0)), some 3, none, []⟩]) (
  .block 0 (
   .loopS [0, 2, 3] 0 (
    .seq (
    .seq (
    .reg [⟨.mv (.v 3), none, none, []⟩,
      ⟨.mv (.v 0), none, none, []⟩,
      ⟨.len false (.l 1), none, none, []⟩,
      ⟨.bin .lss false (.l 0) (.l 2), some 6, none, []⟩]) (
    .cond (.v 6) (
     .skip) (
     .exit 0))) (
    .seq (
    .block 1 (
     .seq (
     .reg [⟨.mv (.c (.int .i64 7)), some 4, none, []⟩]) (
     .block 2 (
      .loopS [0, 2, 3, 4] 0 (
       .seq (
       .seq (
       .reg [⟨.mv (.v 4), none, none, []⟩,
         ⟨.bin .geq false (.l 0) (.c (.int .i64 0)), some 7, none, []⟩]) (
       .cond (.v 7) (
        .skip) (
        .exit 2))) (
       .seq (
       .block 3 (
        .seq (
        .reg [⟨.mv (.v 2), none, none, []⟩,
          ⟨.bin .quo false (.l 0) (.c (.int .u32 32768)), none, none, []⟩,
          ⟨.mv (.v 0), none, none, []⟩,
          ⟨.mv (.v 3), none, none, []⟩,
          ⟨.indexAddr 1 (.l 2) (.l 3), none, none, []⟩,
          ⟨.load false 1 (.l 4), none, none, []⟩,
          ⟨.mv (.v 4), none, none, []⟩,
          ⟨.bin .shr false (.l 5) (.l 6), none, none, []⟩,
          ⟨.bin .and false (.l 7) (.c (.int .u8 1)), none, none, []⟩,
          ⟨.conv .u32 (.l 8), none, none, []⟩,
          ⟨.bin .xor false (.l 1) (.l 9), none, none, []⟩,
          ⟨.mv (.l 10), some 5, none, []⟩]) (
        .seq (
        .reg [⟨.mv (.v 2), none, none, []⟩,
          ⟨.bin .mul false (.c (.int .u32 2)) (.l 0), none, none, []⟩,
          ⟨.bin .rem false (.l 1) (.c (.int .u32 65536)), none, none, []⟩,
          ⟨.mv (.l 2), some 2, none, []⟩]) (
        .seq (
        .reg [⟨.mv (.v 5), none, none, []⟩,
          ⟨.bin .eql false (.l 0) (.c (.int .u32 1)), some 8, none, []⟩]) (
        .cond (.v 8) (
         .reg [⟨.mv (.v 2), none, none, []⟩,
           ⟨.bin .xor false (.l 0) (.c (.int .u32 4129)), none, none, []⟩,
           ⟨.mv (.l 1), some 2, none, []⟩]) (
         .skip)))))) (
       .reg [⟨.mv (.v 4), none, none, []⟩,
         ⟨.bin .sub false (.l 0) (.c (.int .i64 1)), none, none, []⟩,
         ⟨.mv (.l 1), some 4, none, []⟩]))))))) (
    .reg [⟨.mv (.v 3), none, none, []⟩,
      ⟨.bin .add false (.l 0) (.c (.int .i64 1)), none, none, []⟩,
      ⟨.mv (.l 1), some 3, none, []⟩])))))) (
  .seq (
  .reg [⟨.mv (.v 2), none, none, []⟩,
    ⟨.mv (.l 0), some 1, none, []⟩]) (
  .ret))))⟩

def X28 : XFn :=
 ⟨47, [0, 1, 4, 5, 6, 7, 36, 44], 3, [(2, some (true, 3)), (3, none)],
  .seq (
  .reg [⟨.alloc 0 [(.int .i64 0), (.int .i64 0), (.int .i64 0)], some 2, none, []⟩,
    ⟨.mv (.c (.bool false)), some 3, none, []⟩]) (
  .seq (
  .reg [⟨.mv (.v 1), none, none, [1]⟩,
    ⟨.indexAddr 1 (.l 0) (.c (.int .i64 0)), none, none, [1]⟩,
    ⟨.load false 1 (.l 1), none, none, [1]⟩,
    ⟨.conv .i64 (.l 2), none, none, [1]⟩,
    ⟨.mv (.v 1), none, none, [1]⟩,
    ⟨.slice false 1 (.l 4) (some (.c (.int .i64 1))) (some (.c (.int .i64 5))) none, none, none, [1]⟩,
    ⟨.call 31 [(.l 5)] [(0, 0)] false, none, none, [1]⟩,
    ⟨.mv (.v 1), none, none, [1]⟩,
    ⟨.slice false 1 (.l 7) (some (.c (.int .i64 5))) (some (.c (.int .i64 9))) none, none, none, [1]⟩,
    ⟨.call 31 [(.l 8)] [(0, 0)] false, none, none, [1]⟩,
    ⟨.build [(.int .i64 0), (.int .i64 0), (.int .i64 0)] [(0, 1, (.l 3)), (1, 1, (.l 6)), (2, 1, (.l 9))], none, none, [1]⟩,
    ⟨.alloc 1 [(.int .i64 0), (.int .i64 0), (.int .i64 0)], some 4, none, []⟩,
    ⟨.store 3 (.l 11) (.l 10), none, none, []⟩]) (
  .seq (
  .seq (
  .reg [⟨.fieldAddr 0 (.v 4), none, none, []⟩,
    ⟨.load false 1 (.l 0), none, none, []⟩,
    ⟨.bin .lss false (.l 1) (.c (.int .i64 1)), none, none, []⟩,
    ⟨.mv (.l 2), none, none, []⟩,
    ⟨.fieldAddr 0 (.v 4), none, some ((.l 3), false), []⟩,
    ⟨.load false 1 (.l 4), none, some ((.l 3), false), []⟩,
    ⟨.bin .gtr false (.l 5) (.c (.int .i64 5)), none, some ((.l 3), false), []⟩,
    ⟨.pick (.l 3) (.c (.bool true)) (.l 6), none, none, []⟩,
    ⟨.mv (.l 7), none, none, []⟩,
    ⟨.fieldAddr 1 (.v 4), none, some ((.l 8), false), []⟩,
    ⟨.load false 1 (.l 9), none, some ((.l 8), false), []⟩,
    ⟨.bin .gtr false (.l 10) (.c (.int .i64 2147483647)), none, some ((.l 8), false), []⟩,
    ⟨.pick (.l 8) (.c (.bool true)) (.l 11), none, none, []⟩,
    ⟨.mv (.l 12), none, none, []⟩,
    ⟨.fieldAddr 2 (.v 4), none, some ((.l 13), false), []⟩,
    ⟨.load false 1 (.l 14), none, some ((.l 13), false), []⟩,
    ⟨.bin .gtr false (.l 15) (.c (.int .i64 2147483647)), none, some ((.l 13), false), []⟩,
    ⟨.pick (.l 13) (.c (.bool true)) (.l 16), some 6, none, []⟩]) (
  .cond (.v 6) (
   .seq (
   .reg [⟨.build [(.int .i64 0), (.int .i64 0), (.int .i64 0)] [], none, none, []⟩,
     ⟨.store 3 (.v 2) (.l 0), none, none, []⟩,
     ⟨.mv (.c (.bool false)), some 3, none, []⟩]) (
   .ret)) (
   .skip))) (
  .seq (
  .reg [⟨.mv (.v 0), none, none, []⟩,
    ⟨.load true 3 (.v 4), none, none, []⟩,
    ⟨.call 23 [(.l 0), (.l 1)] [(0, 0), (0, 0), (0, 0), (0, 0), (0, 0), (0, 0), (0, 0), (0, 0), (0, 0), (0, 0), (0, 0)] true, none, none, []⟩,
    ⟨.allocA 2 [(.int .u8 0), (.int .u8 0), (.int .u8 0), (.int .u8 0), (.int .u8 0), (.int .u8 0), (.int .u8 0), (.int .u8 0), (.int .u8 0), (.int .u8 0), (.int .u8 0)], some 5, none, []⟩,
    ⟨.storeA 11 (.l 3) (.l 2), none, none, []⟩]) (
  .seq (
  .seq (
  .reg [⟨.sliceA 11 (.v 5) none none, none, none, []⟩,
    ⟨.mv (.v 1), none, none, []⟩,
    ⟨.call 32 [(.l 0), (.l 1)] [(0, 0)] true, none, none, []⟩,
    ⟨.un .not (.l 2), some 7, none, []⟩]) (
  .cond (.v 7) (
   .seq (
   .reg [⟨.build [(.int .i64 0), (.int .i64 0), (.int .i64 0)] [], none, none, []⟩,
     ⟨.store 3 (.v 2) (.l 0), none, none, []⟩,
     ⟨.mv (.c (.bool false)), some 3, none, []⟩]) (
   .ret)) (
   .skip))) (
  .seq (
  .reg [⟨.load true 3 (.v 4), none, none, []⟩,
    ⟨.store 3 (.v 2) (.l 0), none, none, []⟩,
    ⟨.mv (.c (.bool true)), some 3, none, []⟩]) (
  .ret))))))⟩

def X29 : XFn :=
 ⟨18, [0, 2, 3], 1, [(1, some (true, 4))],
  .seq (
  .reg [⟨.allocA 0 [(.int .u8 0), (.int .u8 0), (.int .u8 0), (.int .u8 0)], some 1, none, []⟩]) (
  .seq (
  .reg [⟨.mv (.v 0), none, none, []⟩,
    ⟨.conv .u32 (.l 0), none, none, []⟩,
    ⟨.mv (.l 1), some 2, none, []⟩]) (
  .seq (
  .reg [⟨.mv (.v 2), none, none, []⟩,
    ⟨.bin .shr false (.l 0) (.c (.int .u64 24)), none, none, []⟩,
    ⟨.conv .u8 (.l 1), none, none, []⟩,
    ⟨.mv (.v 2), none, none, []⟩,
    ⟨.bin .shr false (.l 3) (.c (.int .u64 16)), none, none, []⟩,
    ⟨.conv .u8 (.l 4), none, none, []⟩,
    ⟨.mv (.v 2), none, none, []⟩,
    ⟨.bin .shr false (.l 6) (.c (.int .u64 8)), none, none, []⟩,
    ⟨.conv .u8 (.l 7), none, none, []⟩,
    ⟨.mv (.v 2), none, none, []⟩,
    ⟨.conv .u8 (.l 9), none, none, []⟩,
    ⟨.build [(.int .u8 0), (.int .u8 0), (.int .u8 0), (.int .u8 0)] [(0, 1, (.l 2)), (1, 1, (.l 5)), (2, 1, (.l 8)), (3, 1, (.l 10))], none, none, []⟩,
    ⟨.storeA 4 (.v 1) (.l 11), none, none, []⟩]) (
  .ret)))⟩

def X30 : XFn :=
 ⟨39, [0, 2, 3, 5, 7, 8, 9, 10, 11, 12, 15, 16, 17, 18, 26, 27, 32], 0, [(1, none)],
  .seq (
  .reg [⟨.mv (.c (.int .u16 0)), some 1, none, []⟩]) (
  .seq (
  .reg [⟨.mv (.c (.int .u16 65535)), some 2, none, []⟩]) (
  .seq (
  .seq (
  .reg [⟨.mv (.v 0), some 6, none, []⟩,
    ⟨.len false (.l 0), some 7, none, []⟩,
    ⟨.mv (.c (.int .i64 0)), some 8, none, []⟩]) (
  .block 0 (
   .loopS [2, 6, 7, 8] 0 (
    .seq (
    .reg [⟨.bin .lss false (.v 8) (.v 7), some 9, none, []⟩]) (
    .seq (
    .cond (.v 9) (
     .skip) (
     .exit 0)) (
    .seq (
    .block 1 (
     .seq (
     .reg [⟨.indexAddr 1 (.v 6) (.v 8), none, none, []⟩,
       ⟨.load false 1 (.l 0), none, none, []⟩,
       ⟨.mv (.l 1), some 3, none, []⟩]) (
     .seq (
     .reg [⟨.mv (.v 3), some 10, none, []⟩,
       ⟨.len false (.l 0), some 11, none, []⟩,
       ⟨.mv (.c (.int .i64 0)), some 12, none, []⟩]) (
     .block 2 (
      .loopS [2, 6, 7, 8, 10, 11, 12] 0 (
       .seq (
       .reg [⟨.bin .lss false (.v 12) (.v 11), some 13, none, []⟩]) (
       .seq (
       .cond (.v 13) (
        .skip) (
        .exit 2)) (
       .seq (
       .block 3 (
        .seq (
        .reg [⟨.indexAddr 1 (.v 10) (.v 12), none, none, []⟩,
          ⟨.load false 1 (.l 0), none, none, []⟩,
          ⟨.mv (.l 1), some 4, none, []⟩]) (
        .seq (
        .reg [⟨.mv (.v 2), none, none, []⟩,
          ⟨.mv (.v 4), none, none, []⟩,
          ⟨.conv .u16 (.l 1), none, none, []⟩,
          ⟨.bin .shl false (.l 2) (.c (.int .u64 8)), none, none, []⟩,
          ⟨.bin .xor false (.l 0) (.l 3), none, none, []⟩,
          ⟨.mv (.l 4), some 2, none, []⟩]) (
        .seq (
        .reg [⟨.mv (.c (.int .i64 0)), some 14, none, []⟩]) (
        .block 4 (
         .loopS [2, 6, 7, 8, 10, 11, 12, 14] 0 (
          .seq (
          .reg [⟨.bin .lss false (.v 14) (.c (.int .i64 8)), some 15, none, []⟩]) (
          .seq (
          .cond (.v 15) (
           .skip) (
           .exit 4)) (
          .seq (
          .block 5 (
           .seq (
           .reg [⟨.mv (.v 2), none, none, []⟩,
             ⟨.bin .geq false (.l 0) (.c (.int .u16 32768)), none, none, []⟩,
             ⟨.mv (.l 1), some 5, none, []⟩]) (
           .seq (
           .reg [⟨.mv (.v 2), none, none, []⟩,
             ⟨.bin .shl false (.l 0) (.c (.int .u64 1)), none, none, []⟩,
             ⟨.mv (.l 1), some 2, none, []⟩]) (
           .seq (
           .reg [⟨.mv (.v 5), some 16, none, []⟩]) (
           .cond (.v 16) (
            .reg [⟨.mv (.v 2), none, none, []⟩,
              ⟨.bin .xor false (.l 0) (.c (.int .u16 4129)), none, none, []⟩,
              ⟨.mv (.l 1), some 2, none, []⟩]) (
            .skip)))))) (
          .reg [⟨.bin .add false (.v 14) (.c (.int .i64 1)), none, none, []⟩,
            ⟨.mv (.l 0), some 14, none, []⟩])))))))))) (
       .reg [⟨.bin .add false (.v 12) (.c (.int .i64 1)), none, none, []⟩,
         ⟨.mv (.l 0), some 12, none, []⟩]))))))))) (
    .reg [⟨.bin .add false (.v 8) (.c (.int .i64 1)), none, none, []⟩,
      ⟨.mv (.l 0), some 8, none, []⟩]))))))) (
  .seq (
  .reg [⟨.mv (.v 2), none, none, []⟩,
    ⟨.mv (.l 0), some 1, none, []⟩]) (
  .ret))))⟩

def X31 : XFn :=
 ⟨19, [0, 2, 3, 5, 6, 7, 8, 9], 0, [(1, none)],
  .seq (
  .reg [⟨.mv (.c (.int .i64 0)), some 1, none, []⟩]) (
  .seq (
  .reg [⟨.mv (.c (.int .i64 0)), some 2, none, []⟩]) (
  .seq (
  .seq (
  .reg [⟨.mv (.v 0), some 4, none, []⟩,
    ⟨.len false (.l 0), some 5, none, []⟩,
    ⟨.mv (.c (.int .i64 0)), some 6, none, []⟩]) (
  .block 0 (
   .loopS [2, 4, 5, 6] 0 (
    .seq (
    .reg [⟨.bin .lss false (.v 6) (.v 5), some 7, none, []⟩]) (
    .seq (
    .cond (.v 7) (
     .skip) (
     .exit 0)) (
    .seq (
    .block 1 (
     .seq (
     .reg [⟨.indexAddr 1 (.v 4) (.v 6), none, none, []⟩,
       ⟨.load false 1 (.l 0), none, none, []⟩,
       ⟨.mv (.l 1), some 3, none, []⟩]) (
     .reg [⟨.mv (.v 2), none, none, []⟩,
       ⟨.bin .shl false (.l 0) (.c (.int .u64 8)), none, none, []⟩,
       ⟨.mv (.v 3), none, none, []⟩,
       ⟨.conv .i64 (.l 2), none, none, []⟩,
       ⟨.bin .or false (.l 1) (.l 3), none, none, []⟩,
       ⟨.mv (.l 4), some 2, none, []⟩]))) (
    .reg [⟨.bin .add false (.v 6) (.c (.int .i64 1)), none, none, []⟩,
      ⟨.mv (.l 0), some 6, none, []⟩]))))))) (
  .seq (
  .reg [⟨.mv (.v 2), none, none, []⟩,
    ⟨.mv (.l 0), some 1, none, []⟩]) (
  .ret))))⟩

def X32 : XFn :=
 ⟨26, [0, 1, 4, 5, 10, 12, 13, 14, 24], 0, [(2, none)],
  .seq (
  .reg [⟨.mv (.c (.bool false)), some 2, none, []⟩]) (
  .seq (
  .seq (
  .reg [⟨.mv (.v 0), none, none, []⟩,
    ⟨.len false (.l 0), none, none, []⟩,
    ⟨.mv (.v 1), none, none, []⟩,
    ⟨.len false (.l 2), none, none, []⟩,
    ⟨.bin .neq false (.l 1) (.l 3), some 4, none, []⟩]) (
  .cond (.v 4) (
   .seq (
   .reg [⟨.mv (.c (.bool false)), some 2, none, []⟩]) (
   .ret)) (
   .skip))) (
  .seq (
  .seq (
  .reg [⟨.mv (.v 0), none, none, []⟩,
    ⟨.len false (.l 0), some 5, none, []⟩,
    ⟨.mv (.c (.int .i64 0)), some 6, none, []⟩]) (
  .block 0 (
   .loopS [0, 1, 5, 6] 0 (
    .seq (
    .reg [⟨.bin .lss false (.v 6) (.v 5), some 7, none, []⟩]) (
    .seq (
    .cond (.v 7) (
     .skip) (
     .exit 0)) (
    .seq (
    .block 1 (
     .seq (
     .reg [⟨.mv (.v 6), none, none, []⟩,
       ⟨.mv (.l 0), some 3, none, []⟩]) (
     .seq (
     .reg [⟨.mv (.v 0), none, none, []⟩,
       ⟨.mv (.v 3), none, none, []⟩,
       ⟨.indexAddr 1 (.l 0) (.l 1), none, none, []⟩,
       ⟨.load false 1 (.l 2), none, none, []⟩,
       ⟨.mv (.v 1), none, none, []⟩,
       ⟨.mv (.v 3), none, none, []⟩,
       ⟨.indexAddr 1 (.l 4) (.l 5), none, none, []⟩,
       ⟨.load false 1 (.l 6), none, none, []⟩,
       ⟨.bin .neq false (.l 3) (.l 7), some 8, none, []⟩]) (
     .cond (.v 8) (
      .seq (
      .reg [⟨.mv (.c (.bool false)), some 2, none, []⟩]) (
      .ret)) (
      .skip))))) (
    .reg [⟨.bin .add false (.v 6) (.c (.int .i64 1)), none, none, []⟩,
      ⟨.mv (.l 0), some 6, none, []⟩]))))))) (
  .seq (
  .reg [⟨.mv (.c (.bool true)), some 2, none, []⟩]) (
  .ret))))⟩

def X25 : XFn :=
 ⟨19, [0, 1, 4], 10, [(2, none)],
  .seq (
  .reg [⟨.mv (.c .nils), some 2, none, []⟩]) (
  .seq (
  .reg [⟨.mv (.v 0), none, none, []⟩,
    ⟨.mv (.v 1), none, none, []⟩,
    ⟨.bin .shr false (.l 1) (.c (.int .u64 24)), none, none, []⟩,
    ⟨.conv .u8 (.l 2), none, none, []⟩,
    ⟨.mv (.v 1), none, none, []⟩,
    ⟨.bin .shr false (.l 4) (.c (.int .u64 16)), none, none, []⟩,
    ⟨.conv .u8 (.l 5), none, none, []⟩,
    ⟨.mv (.v 1), none, none, []⟩,
    ⟨.bin .shr false (.l 7) (.c (.int .u64 8)), none, none, []⟩,
    ⟨.conv .u8 (.l 8), none, none, []⟩,
    ⟨.mv (.v 1), none, none, []⟩,
    ⟨.conv .u8 (.l 10), none, none, []⟩,
    ⟨.mkarr 8 1 [(.int .u8 0), (.int .u8 0), (.int .u8 0), (.int .u8 0)] [(0, (.l 3)), (1, (.l 6)), (2, (.l 9)), (3, (.l 11))], none, none, []⟩,
    ⟨.append 9 1 1 1 (.l 0) (.l 12), none, none, []⟩,
    ⟨.mv (.l 13), some 2, none, []⟩]) (
  .ret))⟩

def X20 : XFn :=
 ⟨4, [0, 1, 2], 5, [(2, none)],
  .seq (
  .reg [⟨.box 4 (.v 0), some 1, none, []⟩,
    ⟨.mv (.c (.lit .nilFunc)), some 2, none, []⟩]) (
  .seq (
  .reg [⟨.mkfn (.func 27) [] [(.v 1)], none, none, []⟩,
    ⟨.mv (.l 0), some 2, none, []⟩]) (
  .ret))⟩

def X27 : XFn :=
 ⟨34, [0, 1, 3, 4, 5, 11, 33], 6, [],
  .seq (
  .reg [⟨.mv (.c (.int .i64 0)), some 2, none, []⟩]) (
  .block 0 (
   .loop (
    .seq (
    .seq (
    .reg [⟨.load false 1 (.v 1), none, none, []⟩,
      ⟨.len false (.l 0), none, none, []⟩,
      ⟨.mv (.v 2), none, none, []⟩,
      ⟨.bin .mul false (.l 2) (.c (.int .i64 11)), none, none, []⟩,
      ⟨.bin .sub false (.l 1) (.l 3), none, none, []⟩,
      ⟨.bin .geq false (.l 4) (.c (.int .i64 11)), some 5, none, []⟩]) (
    .cond (.v 5) (
     .skip) (
     .exit 0))) (
    .seq (
    .block 1 (
     .seq (
     .reg [⟨.mv (.v 2), none, none, []⟩,
       ⟨.load false 1 (.v 1), none, none, []⟩,
       ⟨.mv (.v 2), none, none, []⟩,
       ⟨.bin .mul false (.l 2) (.c (.int .i64 11)), none, none, []⟩,
       ⟨.mv (.v 2), none, none, []⟩,
       ⟨.bin .add false (.l 4) (.c (.int .i64 1)), none, none, []⟩,
       ⟨.bin .mul false (.l 5) (.c (.int .i64 11)), none, none, []⟩,
       ⟨.slice false 1 (.l 1) (some (.l 3)) (some (.l 6)) none, none, none, []⟩,
       ⟨.call 28 [(.l 0), (.l 7)] [(0, 0), (0, 0), (0, 0), (0, 0)] true, none, none, []⟩,
       ⟨.mv (.l 8), none, none, []⟩,
       ⟨.extract (.l 9) 0, none, none, []⟩,
       ⟨.extract (.l 9) 1, none, none, []⟩,
       ⟨.alloc 5 [(.int .i64 0), (.int .i64 0), (.int .i64 0)], some 3, none, []⟩,
       ⟨.store 3 (.l 12) (.l 10), none, none, []⟩,
       ⟨.mv (.l 11), some 4, none, []⟩]) (
     .seq (
     .reg [⟨.mv (.v 4), none, none, []⟩,
       ⟨.un .not (.l 0), none, none, []⟩,
       ⟨.mv (.l 1), none, none, []⟩,
       ⟨.mv (.v 0), none, some ((.l 2), false), []⟩,
       ⟨.load true 3 (.v 3), none, some ((.l 2), false), []⟩,
       ⟨.cally (.l 3) [(.l 4)], none, some ((.l 2), false), []⟩,
       ⟨.un .not (.l 5), none, some ((.l 2), false), []⟩,
       ⟨.pick (.l 2) (.c (.bool true)) (.l 6), some 6, none, []⟩]) (
     .cond (.v 6) (
      .ret) (
      .skip))))) (
    .reg [⟨.mv (.v 2), none, none, []⟩,
      ⟨.bin .add false (.l 0) (.c (.int .i64 1)), none, none, []⟩,
      ⟨.mv (.l 1), some 2, none, []⟩])))))⟩

theorem c10 : compFn Try.prog 10 = some { X10 with body := strip X10.body } := by kernel_rfl
theorem c11 : compFn Try.prog 11 = some { X11 with body := strip X11.body } := by kernel_rfl
theorem c12 : compFn Try.prog 12 = some { X12 with body := strip X12.body } := by kernel_rfl
theorem c13 : compFn Try.prog 13 = some { X13 with body := strip X13.body } := by kernel_rfl
theorem c14 : compFn Try.prog 14 = some { X14 with body := strip X14.body } := by kernel_rfl
theorem c15 : compFn Try.prog 15 = some { X15 with body := strip X15.body } := by kernel_rfl
theorem c16 : compFn Try.prog 16 = some { X16 with body := strip X16.body } := by kernel_rfl
theorem c17 : compFn Try.prog 17 = some { X17 with body := strip X17.body } := by kernel_rfl
theorem c18 : compFn Try.prog 18 = some { X18 with body := strip X18.body } := by kernel_rfl
theorem c19 : compFn Try.prog 19 = some { X19 with body := strip X19.body } := by kernel_rfl
theorem c21 : compFn Try.prog 21 = some { X21 with body := strip X21.body } := by kernel_rfl
theorem c22 : compFn Try.prog 22 = some { X22 with body := strip X22.body } := by kernel_rfl
theorem c23 : compFn Try.prog 23 = some { X23 with body := strip X23.body } := by kernel_rfl
theorem c24 : compFn Try.prog 24 = some { X24 with body := strip X24.body } := by kernel_rfl
theorem c26 : compFn Try.prog 26 = some { X26 with body := strip X26.body } := by kernel_rfl
theorem c28 : compFn Try.prog 28 = some { X28 with body := strip X28.body } := by kernel_rfl
theorem c29 : compFn Try.prog 29 = some { X29 with body := strip X29.body } := by kernel_rfl
theorem c30 : compFn Try.prog 30 = some { X30 with body := strip X30.body } := by kernel_rfl
theorem c31 : compFn Try.prog 31 = some { X31 with body := strip X31.body } := by kernel_rfl
theorem c32 : compFn Try.prog 32 = some { X32 with body := strip X32.body } := by kernel_rfl
theorem c25 : compFnAt Try.prog 25 8 = some X25 := by kernel_rfl
theorem c20 : compFnAt Try.prog 20 4 = some X20 := by kernel_rfl
theorem c27 : compFnAt Try.prog 27 5 = some { X27 with body := stripF X27.body } := by kernel_rfl
end Go.Proofs.Ytkfjnbljegoomaa.J
