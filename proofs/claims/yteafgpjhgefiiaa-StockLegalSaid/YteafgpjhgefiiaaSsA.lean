/-
  Chapter 30: the fixed examples.
-/
import Derived.Test.YteafgpjhgefiiaaSpX
import Derived.Test.YteafgpjhgefiiaaShA
import Derived.Test.YteafgpjhgefiiaaSiA
import Derived.Test.YteafgpjhgefiiaaSkA
import Derived.Test.YteafgpjhgefiiaaSmA
import Derived.Test.YteafgpjhgefiiaaSoA
namespace Go.Proofs.Yteafgpjhgefiiaa.S
set_option linter.unusedSimpArgs false
set_option linter.unusedVariables false
set_option linter.unusedSectionVars false
open Go.Proofs.Yteafgpjhgefiiaa.Am
set_option maxHeartbeats 4000000
theorem frz_rw : frzE ∘ RW = RW := rfl
theorem sanity_fn : Am.Fn Try.prog 10 [0] [] (.bool true) := by
  have p0 : Am.Fn Try.prog 23 [0, 0, 1, 1] [.int .u8 0] (plU 0) := Plate_fn 0 (by omega) (by omega)
  have p1 : Am.Fn Try.prog 23 [0, 0, 1, 1] [.int .u8 1] (plU 1) := Plate_fn 1 (by omega) (by omega)
  have p2 : Am.Fn Try.prog 23 [0, 0, 1, 1] [.int .u8 2] (plU 2) := Plate_fn 2 (by omega) (by omega)
  have m1 := Match_fn [0, 1, 0] [0, 0, 0, 2] ⟨by decide, by decide⟩ ⟨by decide, by decide⟩
  rw [show froms [0, 1, 0] [0, 0, 0, 2] = [0, 2, -1, -1] by decide, show miss [0, 2, -1, -1] = 2 by decide] at m1
  have m2 := Match_fn [] [0] ⟨by decide, by decide⟩ ⟨by decide, by decide⟩
  rw [show froms [] [0] = [-1] by decide, show miss [-1] = 1 by decide] at m2
  have s1 := Same_fn [0, 2, -1, -1] [0, 2, -1, -1] 2 2 (by decide)
  have t1 := Take_fn [0, 1, 0] [0, 2, -1, -1] 2 ⟨by decide, by decide⟩ (by decide) (by decide)
  rw [show NL (take [0, 1, 0] [0, 2, -1, -1]) = UL [1] from rfl] at t1
  have l1 := SameList_fn [1] [1] ⟨by decide, by decide⟩ ⟨by decide, by decide⟩
  have g1 := Legal_fn [0, 1] [0] [1] 0 ⟨by decide, by decide⟩ ⟨by decide, by decide⟩ (by decide) (by decide)
  rw [show legal [0, 1] [0] [1] 0 = false by decide] at g1
  have g2 := Legal_fn [0, 1] [0] [-1] 1 ⟨by decide, by decide⟩ ⟨by decide, by decide⟩ (by decide) (by decide)
  rw [show legal [0, 1] [0] [-1] 1 = true by decide] at g2
  have g3 := Legal_fn [0, 1] [0] [-1] 0 ⟨by decide, by decide⟩ ⟨by decide, by decide⟩ (by decide) (by decide)
  rw [show legal [0, 1] [0] [-1] 0 = false by decide] at g3
  have g4 := Legal_fn [] [] [] 0 ⟨by decide, by decide⟩ ⟨by decide, by decide⟩ (by decide) (by decide)
  rw [show legal [] [] [] 0 = true by decide] at g4
  have t2 := Take_fn [0, 1] [5, -2] 0 ⟨by decide, by decide⟩ (by decide) (by decide)
  rw [show NL (take [0, 1] [5, -2]) = UL [0, 1] from rfl] at t2
  refine fn_introX mixed (X := X10) c10 17 (by simp [X10]) fun Q hR hN => ?_
  simp [X10]
  refine call_of p0 ?_
  simp [take_map, frz_uw]
  refine call_of p1 ?_
  simp [take_map, frz_uw]
  refine call_of p2 ?_
  simp [take_map, frz_uw, frz_rw]
  refine call_of m1 ?_
  simp [take_map, frz_uw, frz_rw]
  refine call_of s1 ?_
  simp [take_map, frz_uw, frz_rw]
  refine call_of t1 ?_
  simp [take_map, frz_uw, frz_rw]
  refine call_of l1 ?_
  simp [take_map, frz_uw, frz_rw]
  refine call_of g1 ?_
  simp [take_map, frz_uw, frz_rw]
  refine call_of g2 ?_
  simp [take_map, frz_uw, frz_rw]
  refine call_of g3 ?_
  simp [take_map, frz_uw, frz_rw]
  refine call_of g4 ?_
  simp [take_map, frz_uw, frz_rw]
  refine call_of m2 ?_
  simp [take_map, frz_uw, frz_rw]
  refine call_of t2 ?_
  simp [take_map, frz_uw, frz_rw]
  refine hR _ _ ?_
  simp [X10]
end Go.Proofs.Yteafgpjhgefiiaa.S
