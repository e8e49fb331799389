/-
  Chapter 18: LineMatchesReference walked.
-/
import Derived.Test.YtnlapjkfbodbkaaLqX
import Derived.Test.YtnlapjkfbodbkaaLqP
namespace Go.Proofs.Ytnlapjkfbodbkaa.L
set_option linter.unusedSimpArgs false
set_option linter.unusedVariables false
set_option linter.unusedSectionVars false
open Go.Proofs.Ytnlapjkfbodbkaa.Am
set_option maxHeartbeats 8000000
theorem Match_fn (l : List Int) (W a b : Int) (hl : l.length ≤ maxLen) (hW : -128 ≤ W ∧ W ≤ 127) (ha : -128 ≤ a ∧ a ≤ 127) (hb : -128 ≤ b ∧ b ≤ 127) :
    Am.Fn Try.prog 3 [0] [.slc (l.map U), .int .i8 W, .agg [.int .i8 a, .int .i8 b]] (.bool true) := by
  refine fn_introX mixed (X := X3) c3 12 (by simp [X3]) fun Q hR hN => ?_
  simp [X3]
  refine call_of sanity_fn ?_
  simp
  refine loopX (fun (s : Nat × List Int) vs h => s.1 ≤ l.length ∧ s.1 ≤ 80 ∧ s.2 = l.take s.1 ∧
    vs = [.slc (l.map U), .int .i8 W, .undef, .ptr 10 1 0, .undef, .bool true, .own 11 1 s.2.length 1 0 s.2.length, I s.1, .undef, .undef, .undef, .undef, .undef, .undef, .undef, .undef, .undef, .undef] ∧
    h = List.replicate 10 (0, .dead) ++ [(1, .var [.int .i8 a, .int .i8 b]), (1, .arr 1 0 false (s.2.map U))]) (fun s => 80 - s.1) (0, []) ?_ ?_
  · simp
  · rintro ⟨k, c⟩ vs h ⟨k1, k2, hc, rfl, rfl⟩ Q1 hK hX hR'
    dsimp only at k1 k2 hc
    have hcl : c.length = k := by rw [hc]; simp; omega
    have fin : k = l.length ∨ k = 80 → ∀ v17, Q1 (.exit 0) [.slc (l.map U), .int .i8 W, .undef, .ptr 10 1 0, .undef, .bool true, .own 11 1 c.length 1 0 c.length, I k, .undef, .undef, .undef, .undef, .undef, .undef, .undef, .undef, .undef, v17] (List.replicate 10 (0, .dead) ++ [(1, .var [.int .i8 a, .int .i8 b]), (1, .arr 1 0 false (c.map U))]) := fun hk v17 => by
      refine hX _ _ _ ?_
      have hm : c.length ≤ maxLen := by unfold maxLen; omega
      have ea : IntKind.i64.wrap a = a := wrap_ok (by omega) (by omega)
      have eb : IntKind.i64.wrap b = b := wrap_ok (by omega) (by omega)
      have eW : IntKind.i64.wrap W = W := wrap_ok (by omega) (by omega)
      have et : List.take c.length (List.map U c) = List.map U c := List.take_of_length_le (by simp)
      obtain ⟨at_, e, L, h1, h2⟩ := breakR_cases c W a b (by omega)
      have hB := breakP_fn c W a b (by omega)
      have hBr := breakRef_fn c W a b (by omega)
      rw [h1] at hB hBr
      have hC := cleanP_fn c hm
      have hCr := clean_fn c hm
      have hI := indentP_fn c hm
      have hIr := Indent_fn c hm
      have hT := trimP_fn c hm
      have hTr := trim_fn c (by omega)
      have hSl := SameLine_fn (trim c) (trim c) (by have := trimN_le c c.length; unfold trim; simp; omega)
      rw [beq_self_eq_true] at hSl
      cases L with
      | none =>
        have hS := Same_fn [] [] (by simp) (by simp)
        simp [ea, eb, eW, et]
        refine call_of hB ?_
        simp [linesV, et, eW]
        refine call_of hBr ?_
        simp [linesV, et, eW]
        refine call_of hC ?_
        simp [et, eW]
        refine call_of hCr ?_
        simp [et, eW]
        refine call_of hS ?_
        simp [et, eW]
        refine call_of hI ?_
        simp [et, eW]
        refine call_of hIr ?_
        simp [et, eW]
        refine call_of hT ?_
        simp [et, eW]
        refine call_of hTr ?_
        simp [et, eW]
        rw [show List.take (trim c).length (List.map (PV.int IntKind.u8) (trim c)) = List.map U (trim c) from List.take_of_length_le (by simp)]
        refine call_of hSl ?_
        simp
        refine hR _ _ ?_
        simp [X3]
      | some L =>
        obtain ⟨h3, h4⟩ := h2 L rfl
        have hS := Same_fn L L (by unfold maxLen; omega) (fun r hr => by have := h4 r hr; unfold maxLen; omega)
        rw [beq_self_eq_true] at hS
        have et2 : List.take L.length (List.map CL L) = List.map CL L := List.take_of_length_le (by simp)
        simp [ea, eb, eW, et]
        refine call_of hB ?_
        simp [linesV, et, eW]
        refine call_of hBr ?_
        simp [linesV, et, eW]
        refine call_of hC ?_
        simp [et, eW]
        refine call_of hCr ?_
        simp [et, eW, frzUCL, et2]
        refine call_of hS ?_
        simp [et, eW]
        refine call_of hI ?_
        simp [et, eW]
        refine call_of hIr ?_
        simp [et, eW]
        refine call_of hT ?_
        simp [et, eW]
        refine call_of hTr ?_
        simp [et, eW]
        rw [show List.take (trim c).length (List.map (PV.int IntKind.u8) (trim c)) = List.map U (trim c) from List.take_of_length_le (by simp)]
        refine call_of hSl ?_
        simp
        refine hR _ _ ?_
        simp [X3]
    have w1 : IntKind.i64.wrap ((k : Int) + 1) = (k : Int) + 1 := wrap_ok (by omega) (by omega)
    by_cases hk : k < l.length
    · by_cases hk2 : (k : Int) < 80
      · have b1 : c.length + 1 ≤ 140737488355328 := by omega
        simp [hk, hk2, w1, b1]
        refine hK (k + 1, c ++ [l[k]]) _ _ (by dsimp only; omega) ?_
        have hc2 : c ++ [l[k]] = l.take (k + 1) := by rw [hc, List.take_succ_eq_append_getElem hk]
        simp [hc2.symm]
        omega
      · simp [hk, hk2]
        exact fin (.inr (by omega)) _
    · simp [hk]
      exact fin (.inl (by omega)) _
end Go.Proofs.Ytnlapjkfbodbkaa.L
