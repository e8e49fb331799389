/-
  Chapter 28: the fixed examples.
-/
import Derived.Test.YtkfjnbljegoomaaQJiA
import Derived.Test.YtkfjnbljegoomaaQJkX
namespace Go.Proofs.Ytkfjnbljegoomaa.J
set_option linter.unusedSimpArgs false
set_option linter.unusedVariables false
set_option linter.unusedSectionVars false
open Go.Proofs.Ytkfjnbljegoomaa.Am
set_option maxHeartbeats 8000000
theorem zeros_dec : rd 0 (List.replicate 22 0) = [] := by
  rw [rd_eq 0, if_pos (by simp)]
  have : dec 0 ((List.replicate 22 (0 : Int)).take 11) = none := by
    unfold dec
    rw [if_neg]
    rintro ⟨h, _⟩
    have := h.1
    simp [recOf] at this
  rw [this]
theorem sanity_fn : Am.Fn Try.prog 9 [0] [] (.bool true) := by
  have ho : okR ⟨1, 0, 1⟩ := by decide
  have hP := Put_fn [] ⟨1, 0, 1⟩ (by simp) ho
  have hE := Encode_fn 0 ⟨1, 0, 1⟩ (by omega) ho
  have hr := enc_range (i := 0) ho
  have hA := rd_all (l := [⟨1, 0, 1⟩]) (by simpa using ho) 0
  have hB := rd_cut (l := [⟨1, 0, 1⟩]) (by simpa using ho) 10 (by simp)
  simp only [encs, List.append_nil] at hA hB
  have hP0 : ([] : List Int) ++ enc (([] : List Int).length / 11) ⟨1, 0, 1⟩ = enc 0 ⟨1, 0, 1⟩ := rfl
  rw [hP0] at hP
  obtain ⟨x, y, hxy⟩ : ∃ x y, enc 0 ⟨1, 0, 1⟩ = [1, 0, 0, 0, 0, 0, 0, 0, 1, x, y] := ⟨_, _, rfl⟩
  rw [hxy] at hP hE hr hA hB
  have hR1 := Read_fn [1, 0, 0, 0, 0, 0, 0, 0, 1, x, y] (by simp) hr
  have hR2 := Read_fn [1, 0, 0, 0, 0, 0, 0, 0, 1, x] (by simp) (fun c hc => hr c (by simp at hc ⊢; omega))
  have hR3 := Read_fn (List.replicate 22 0) (by simp) (fun c hc => by rw [List.eq_of_mem_replicate hc]; omega)
  have hR4 := Repair_fn (List.replicate 22 0) (by simp) (fun c hc => by rw [List.eq_of_mem_replicate hc]; omega)
  have hB' : rd 0 [1, 0, 0, 0, 0, 0, 0, 0, 1, x] = [] := hB
  rw [hA] at hR1
  rw [hB'] at hR2
  rw [zeros_dec] at hR3 hR4
  have hS := Same_fn [⟨1, 0, 1⟩] [⟨1, 0, 1⟩] (by simp)
  rw [decide_eq_true rfl] at hS
  refine fn_introX mixed (X := X9) c9 9 (by simp [X9]) fun Q hR hN => ?_
  simp [X9]
  refine call_of hP ?_
  simp [bytesL, byte?]
  refine call_of hR1 ?_
  simp
  refine call_of hR2 ?_
  simp
  refine call_of hR3 ?_
  simp
  refine call_of hS ?_
  simp
  refine call_of hR4 ?_
  simp [bytesL, byte?]
  refine call_of hE ?_
  simp [bytesL, byte?]
  refine hR _ _ ?_
  simp [X9]
end Go.Proofs.Ytkfjnbljegoomaa.J
