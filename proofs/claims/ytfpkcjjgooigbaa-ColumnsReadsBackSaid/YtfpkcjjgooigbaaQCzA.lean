/-
  Chapter 20: the fixed examples.
-/
import Derived.Test.YtfpkcjjgooigbaaQCyA
import Derived.Test.YtfpkcjjgooigbaaQCwX
namespace Go.Proofs.Ytfpkcjjgooigbaa.C
set_option linter.unusedSimpArgs false
set_option linter.unusedVariables false
set_option linter.unusedSectionVars false
open Go.Proofs.Ytfpkcjjgooigbaa.Am
open Go.Proofs.Ytfpkcjjgooigbaa.L (mixed wrap_ok I U CL CLL UCL Word clean words zeros indent)
set_option maxHeartbeats 8000000
abbrev onesC : Word := List.replicate 20 1
theorem sanity_fn : Am.Fn Try.prog 8 [0] [] (.bool true) := by
  obtain ⟨c, hc⟩ : ∃ c : Word, c = onesC := ⟨_, rfl⟩
  obtain ⟨lg, hlg⟩ : ∃ lg : Word, lg = c ++ 0 :: c := ⟨_, rfl⟩
  obtain ⟨cc, hcc⟩ : ∃ cc : Word, cc = c ++ c := ⟨_, rfl⟩
  obtain ⟨zc, hzc⟩ : ∃ zc : Word, zc = 0 :: 0 :: c := ⟨_, rfl⟩
  have lc : c.length = 20 := by rw [hc]; rfl
  have llg : lg.length = 41 := by rw [hlg, hc]; rfl
  have lcc : cc.length = 40 := by rw [hcc, hc]; rfl
  have lzc : zc.length = 22 := by rw [hzc, hc]; rfl
  have L1 := lay_fn [[[1], [1, 3]], [[1, 3], [1]]] 24 (by simp) (by simp)
  have L2 := lay_fn [[c, [1, 3], [1]]] 24 (by simp) (by simp [lc])
  have L3 := lay_fn [[lg, [1]]] 24 (by simp) (by simp [llg])
  have L4 := lay_fn [] 24 (by simp) (by simp)
  have L5 := lay_fn [[[1]], [[1], [1, 3]]] 24 (by simp) (by simp)
  have L6 := lay_fn [[[0]]] 24 (by simp) (by simp)
  have L7 := lay_fn [] 23 (by simp) (by simp)
  have L8 := lay_fn [[cc]] 24 (by simp) (by simp [lcc])
  rw [show layR [[[1], [1, 3]], [[1, 3], [1]]] 24 = ⟨[[1, 0, 0, 0, 1, 3], [1, 3, 0, 0, 1]], 1, 0⟩ by kernel_rfl] at L1
  rw [show layR [[c, [1, 3], [1]]] 24 = ⟨[c, [0, 0, 1, 3], [0, 0, 0, 0, 1]], 2, 0⟩ by rw [hc]; kernel_rfl] at L2
  rw [show layR [[lg, [1]]] 24 = ⟨[c, zc, [0, 0, 0, 0, 1]], 3, 0⟩ by rw [hlg, hzc, hc]; kernel_rfl] at L3
  rw [show layR [] 24 = ⟨[], 0, 200⟩ by kernel_rfl] at L4
  rw [show layR [[[1]], [[1], [1, 3]]] 24 = ⟨[], 0, 200⟩ by kernel_rfl] at L5
  rw [show layR [[[0]]] 24 = ⟨[], 0, 180⟩ by kernel_rfl] at L6
  rw [show layR [] 23 = ⟨[], 0, 1⟩ by kernel_rfl] at L7
  rw [show layR [[cc]] 24 = ⟨[], 0, 181⟩ by rw [hcc, hc]; kernel_rfl] at L8
  have S1 := Same_fn ⟨[[1, 0, 0, 0, 1, 3], [1, 3, 0, 0, 1]], 1, 0⟩ ⟨[[1, 0, 0, 0, 1, 3], [1, 3, 0, 0, 1]], 1, 0⟩ (by simp [maxLen]) (by simp [maxLen])
  have S2 := Same_fn ⟨[c, [0, 0, 1, 3], [0, 0, 0, 0, 1]], 2, 0⟩ ⟨[c, [0, 0, 1, 3], [0, 0, 0, 0, 1]], 2, 0⟩ (by simp [maxLen]) (by simp [maxLen, lc])
  have S3 := Same_fn ⟨[c, zc, [0, 0, 0, 0, 1]], 3, 0⟩ ⟨[c, zc, [0, 0, 0, 0, 1]], 3, 0⟩ (by simp [maxLen]) (by simp [maxLen, lc, lzc])
  rw [sameR_self] at S1 S2 S3
  have R1 := Read1_fn [[1, 0, 0, 0, 1, 3]] 2 (by simp) (by simp) (by simp) (by omega)
  have R2 := Read1_fn [[1, 0, 0, 1, 3]] 2 (by simp) (by simp) (by simp) (by omega)
  rw [show readP1 [[1, 0, 0, 0, 1, 3]] 2 = .tup [.nils, I 200] by unfold readP1; rw [if_neg (by decide +kernel)]] at R1
  rw [show readP1 [[1, 0, 0, 1, 3]] 2 = .tup [RWS [[[1], [1, 3]]], I 0] by unfold readP1; rw [if_pos (by decide +kernel)]; kernel_rfl] at R2
  have SR := SameRows_fn [[[1], [1, 3]]] [[[1], [1, 3]]] (by simp) (by simp [maxLen])
  rw [decide_eq_true rfl] at SR
  refine fn_introX mixed (X := X8) c8 28 (by simp [X8]) fun Q hR hN => ?_
  simp [X8]
  refine loopX (fun (k : Nat) vs h => k ≤ 20 ∧ vs = [.undef, .own 25 1 1 1 0 1, .own 26 1 2 1 0 2, .own 27 1 k 1 0 k, I k, .undef, .undef, .undef, .undef, .undef, .undef, .undef, .undef, .undef] ∧
    h = List.replicate 25 dd ++ [(1, .arr 1 0 false [U 1]), (1, .arr 1 0 false [U 1, U 3]), (1, .arr 1 0 false ((List.replicate k 1).map U))]) (fun k => 20 - k) 0 ?_ ?_
  · simp
  · rintro k vs h ⟨g1, rfl, rfl⟩ Q1 hK hX hR'
    by_cases hk : k < 20
    · have w1 : IntKind.i64.wrap ((k : Int) + 1) = ((k + 1 : Nat) : Int) := wrap_ok (by omega) (by omega)
      have c1 : (k : Int) + 1 ≤ 140737488355328 := by omega
      have c2 : k + 1 ≤ 140737488355328 := by omega
      have hk' : (k : Int) < 20 := by omega
      have hrp : (List.replicate (k + 1) 1).map U = List.replicate k (U 1) ++ [U 1] := by rw [List.map_replicate, List.replicate_succ']
      simp [hk', w1, c1, c2]
      refine hK (k + 1) _ _ (by omega) ?_
      rw [hrp]
      simp
      omega
    · obtain rfl : k = 20 := by omega
      rw [show List.replicate 20 (1 : Int) = c from hc.symm]
      simp
      refine hX _ _ _ ?_
      have hmt : List.take 20 (List.map U c) = c.map U := List.take_of_length_le (by simp [lc])
      have q1 : c.map U ++ U 0 :: c.map U = lg.map U := by rw [hlg]; simp
      have q2 : c.map U ++ c.map U = cc.map U := by rw [hcc]; simp
      have q3 : U 0 :: U 0 :: c.map U = zc.map U := by rw [hzc]; simp
      simp [lc, hmt, q1, q2, q3, llg, lcc, lzc]
      refine call_of L1 ?_
      simp
      refine call_of S1 ?_
      simp [lc, hmt]
      refine call_of L2 ?_
      simp [lc, hmt]
      refine call_of S2 ?_
      simp [lc, hmt, llg]
      refine call_of L3 ?_
      simp [lc, hmt, q3, lzc]
      refine call_of S3 ?_
      simp
      refine call_of L4 ?_
      simp
      refine call_of L5 ?_
      simp
      refine call_of L6 ?_
      simp
      refine call_of L7 ?_
      simp [lc, hmt, q2, lcc]
      refine call_of L8 ?_
      simp
      refine call_of R1 ?_
      simp
      refine call_of R2 ?_
      simp
      refine call_of SR ?_
      simp
      refine hR _ _ ?_
      simp [X8]
end Go.Proofs.Ytfpkcjjgooigbaa.C
