/-
  Chapter 23: blocks from one on.
-/
import Derived.Test.YtnipkbhgaljcoaaVhX
namespace Go.Proofs.Ytnipkbhgaljcoaa.V
set_option linter.unusedSimpArgs false
set_option linter.unusedVariables false
set_option linter.unusedSectionVars false
open Go.Proofs.Ytnipkbhgaljcoaa.Am
abbrev fromC (c : List (List Int)) (i : Nat) : List (List Int) := (c.drop i).map fun r => r.drop i
set_option maxHeartbeats 1000000 in
theorem From_fn (c : List (List Int)) (b : List Bool) (m : Int) (i n : Nat) (hn : b.length = n) (hs : shp c n = true) (hi : i ≤ n) (hn9 : n ≤ 9) :
    Am.Fn Try.prog 14 [1, 1, 0] [Bk c b m, I i] (.agg [.uslc ((fromC c i).map L), .uslc ((b.drop i).map .bool), I m]) := by
  obtain ⟨s1, s2⟩ := shp_iff.1 hs
  refine fn_introX mixed (X := X14) c14 13 (by simp [X14]) fun Q hR hN => ?_
  have q1 : (i : Int) ≤ n := by omega
  have q2 : n - i ≤ 140737488355328 := by omega
  have q3 : (n : Int) - i ≤ 140737488355328 := by omega
  obtain ⟨b', hb'⟩ : ∃ b', b.drop i = b' := ⟨_, rfl⟩
  have hbl : b'.length = n - i := by rw [← hb']; simp [hn]
  have dB : List.drop i (List.map PV.bool b) = List.map PV.bool b' := by rw [← hb', List.map_drop]
  have tkd : List.take (n - i) (List.map PV.bool b') = List.map PV.bool b' := List.take_of_length_le (by simp [hbl])
  rw [hb'] at hR
  simp [X14, r_nil, storeP, hn, q1, hi, q2, q3, dB, tkd, hbl]
  refine loopX (fun (k : Nat) vs h => i ≤ k ∧ k ≤ n ∧
    vs = [.undef, I i, .ptr 8 1 0, .ptr 9 1 0, .ptr 10 1 0, I k, .undef] ∧
    h = List.replicate 8 (0, .dead) ++ [(1, .var [LL c, BL b, I m]), (1, .var [.nils, .nils, I 0]), (1, .var [.own 11 1 (k - i) 1 0 (k - i), .own 12 1 (n - i) 1 0 (n - i), I m]),
      (1, .arr 1 0 false (((c.drop i).take (k - i)).map fun r => L (r.drop i))), (1, .arr 1 0 false (b'.map .bool))]) (fun k => n - k) i ?_ ?_
  · simp [settled, settled, storeP, hi]
  · rintro k vs h ⟨h1, h2, rfl, rfl⟩ Q hK hX hR'
    have hcl : c.length = n := s1
    by_cases hk : k < n
    · have w1 : IntKind.i64.wrap ((k : Int) + 1) = (k : Int) + 1 := wrap_ok (by omega) (by omega)
      have hkc : k < c.length := by omega
      have hrl : c[k].length = n + 1 := s2 _ (List.getElem_mem hkc)
      have q4 : (i : Int) ≤ n + 1 := by omega
      have q5 : i ≤ n + 1 := by omega
      have tkr : List.take (n + 1 - i) (List.drop i (List.map I c[k])) = List.map I (c[k].drop i) := by rw [List.take_of_length_le (by simp; omega), List.map_drop]
      have q6 : (k - i + 1) * 24 ≤ 140737488355328 := by omega
      obtain ⟨C, hC⟩ : ∃ C, (c.drop i).take (k - i) = C := ⟨_, rfl⟩
      have hCl : C.length = k - i := by rw [← hC]; simp; omega
      have hC' : (c.drop i).take (k + 1 - i) = C ++ [c[k]] := by
        rw [show k + 1 - i = k - i + 1 by omega, List.take_succ_eq_append_getElem (by simp; omega), hC]
        simp [show i + (k - i) = k by omega]
      rw [hC]
      simp [r_nil, storeP, hk, hcl, hkc, hrl, q4, q5, tkr, hCl, q6, w1]
      refine hK (k + 1) _ _ (by omega) ?_
      simp [settled, settled, storeP, hC', hCl]
      omega
    · obtain rfl : k = n := by omega
      obtain ⟨C, hC⟩ : ∃ C, c.drop i = C := ⟨_, rfl⟩
      have hCl : C.length = k - i := by rw [← hC]; simp; omega
      have e : (fromC c i).map L = C.map fun r => L (r.drop i) := by rw [fromC, hC, List.map_map]; rfl
      rw [List.take_of_length_le (show (c.drop i).length ≤ k - i by simp; omega), hC]
      rw [e] at hR
      simp [r_nil, storeP, hk, hcl]
      refine hX _ _ _ ?_
      simp [r_nil, storeP]
      refine hR _ _ ?_
      simp [X14, fin, storeP, hCl, hbl, e]
end Go.Proofs.Ytnipkbhgaljcoaa.V
