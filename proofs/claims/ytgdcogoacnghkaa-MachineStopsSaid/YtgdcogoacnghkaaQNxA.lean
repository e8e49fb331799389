/-
  Chapter 27: troubles happen, strikes are made.
-/
import Derived.Test.YtgdcogoacnghkaaQNxP
import Derived.Test.YtgdcogoacnghkaaQNxX
namespace Go.Proofs.Ytgdcogoacnghkaa.N
set_option linter.unusedSimpArgs false
set_option linter.unusedVariables false
set_option linter.unusedSectionVars false
open Go.Proofs.Ytgdcogoacnghkaa.Am
set_option maxHeartbeats 4000000
/-- the caller's memory: the embosser in row 16 -/
abbrev eRow (k : Nat) (a : Nat) (w : List Int) (b : Bool) : Row := (1, .var [I 48, I 12, .own 19 1 12 1 0 12, .own 20 1 12 1 0 12, I k, .bool false, .own 21 1 w.length 1 0 w.length, I a, .own 22 1 96 1 0 96, .bool b])
abbrev wRow (w : List Int) : Row := (1, .arr 1 0 false (w.map I))
abbrev sRow27 (w : List Int) : Row := (1, .arr 1 0 false ((spent w).map .bool))
abbrev dRow (d : List (List Bool)) : Row := (1, .arr 1 0 false (d.map UW))
abbrev MLIT : PV := .mlit [I 1, I 2, I 3, I 4] [.fn (.func 59) [] [], .fn (.func 60) [] [], .fn (.func 61) [] [], .fn (.func 59) [] []]
theorem effects_fn : Am.Fn Try.prog 53 [0] [] MLIT := by
  refine fn_introX mixed (X := X53) c53 1 (by simp [X53]) fun Q hR hN => ?_
  simp [X53]
  refine hR _ _ ?_
  simp [X53]
section
variable (r0 r1 r2 r3 r4 r5 r6 r7 r8 r9 r10 r11 r12 r13 r14 r15 r17 r18 r19 r20 r23 r24 r25 r26 r27 : Row)
theorem stop_fi (k a : Nat) (w : List Int) (b : Bool) (n : Int) : FI Try.prog (.fn (.func 59) [] []) [.ptr 16 1 0, I n] [r0, r1, r2, r3, r4, r5, r6, r7, r8, r9, r10, r11, r12, r13, r14, r15, eRow k a w b, r17, r18, r19, r20, wRow w, sRow27 w, r23, r24, r25, r26, r27] (.tup []) [(16, eRow k a w true)] := by
  refine fn_introXI mixed (X := X59) c59 (by simp [X59]) (by simp) fun Q hR hN => ?_
  simp [X59]
  refine hN _ _ ?_
  simp [X59, finI]
theorem slide_fi (k a : Nat) (w : List Int) (b : Bool) (n : Int) (ha : a ≤ 100000) : FI Try.prog (.fn (.func 60) [] []) [.ptr 16 1 0, I n] [r0, r1, r2, r3, r4, r5, r6, r7, r8, r9, r10, r11, r12, r13, r14, r15, eRow k a w b, r17, r18, r19, r20, wRow w, sRow27 w, r23, r24, r25, r26, r27] (.tup []) [(16, eRow k (a + 1) w b)] := by
  have hw : IntKind.i64.wrap ((a : Int) + 1) = ((a + 1 : Nat) : Int) := wrap_ok (by omega) (by omega)
  refine fn_introXI mixed (X := X60) c60 (by simp [X60]) (by simp) fun Q hR hN => ?_
  simp [X60, hw]
  refine hN _ _ ?_
  simp [X60, finI]
theorem wear_fi (k a : Nat) (w : List Int) (b : Bool) (n : Int) (hl : w.length ≤ 100000) : ∃ x y : Row, FI Try.prog (.fn (.func 61) [] []) [.ptr 16 1 0, I n] [r0, r1, r2, r3, r4, r5, r6, r7, r8, r9, r10, r11, r12, r13, r14, r15, eRow k a w b, r17, r18, r19, r20, wRow w, sRow27 w, r23, r24, r25, r26, r27] (.tup []) [(16, eRow k a (wear n w) b), (21, wRow (wear n w)), (22, sRow27 (wear n w)), (26, x), (27, y)] := by
  by_cases t1 : 0 ≤ n
  case neg =>
    have e : wear n w = w := if_neg (by omega)
    rw [e]
    refine ⟨r26, r27, ?_⟩
    refine fn_introXI mixed (X := X61) c61 (by simp [X61]) (by simp) fun Q hR hN => ?_
    have t1' : n < 0 := by omega
    simp [X61, t1']
    refine hR _ _ ?_
    simp [X61, finI]
  by_cases t2 : n < 96
  case neg =>
    have e : wear n w = w := if_neg (by omega)
    rw [e]
    refine ⟨r26, r27, ?_⟩
    refine fn_introXI mixed (X := X61) c61 (by simp [X61]) (by simp) fun Q hR hN => ?_
    have t1' : ¬ n < 0 := by omega
    have t2' : (96 : Int) ≤ n := by omega
    simp [X61, t1', t2']
    refine hR _ _ ?_
    simp [X61, finI]
  obtain ⟨i, rfl⟩ : ∃ i : Nat, n = i := ⟨n.toNat, by omega⟩
  have hi : i < 96 := by omega
  have hi' : (i : Int) < 96 := by omega
  have t2' : ¬ (96 : Int) ≤ (i : Int) := by omega
  have t2'' : ¬ 96 ≤ i := by omega
  by_cases t3 : (i : Int) ∈ w
  · have e : wear i w = w := if_neg (by simp [t3])
    rw [e]
    refine ⟨r26, r27, ?_⟩
    refine fn_introXI mixed (X := X61) c61 (by simp [X61]) (by simp) fun Q hR hN => ?_
    simp [X61, hi, hi', t2', t2'', spent_get, t3]
    refine hR _ _ ?_
    simp [X61, finI]
  · have e : wear i w = w ++ [(i : Int)] := if_pos ⟨by omega, by omega, t3⟩
    have hc : (w.length + 1) * 8 ≤ 140737488355328 := by omega
    have hs := spent_set (w := w) hi
    rw [e]
    refine ⟨(r26.1 + 1, .dead), r27, ?_⟩
    refine fn_introXI mixed (X := X61) c61 (by simp [X61]) (by simp) fun Q hR hN => ?_
    simp [X61, hi, hi', t2', t2'', spent_get, t3, hc]
    refine hN _ _ ?_
    simp [X61, finI, ← hs]
end
end Go.Proofs.Ytgdcogoacnghkaa.N
