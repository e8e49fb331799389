/-
  Chapter 18: LineInverts, LineFewest walked.
-/
import Derived.Test.YtnlapjkfbodbkaaLvX
namespace Go.Proofs.Ytnlapjkfbodbkaa.L
set_option linter.unusedSimpArgs false
set_option linter.unusedVariables false
set_option linter.unusedSectionVars false
open Go.Proofs.Ytnlapjkfbodbkaa.Am
set_option maxHeartbeats 8000000
theorem Inverts_fn (l : List Int) (w0 w1 w2 : Int) (hl : l.length ≤ maxLen) (hb : ∀ x ∈ l, 0 ≤ x ∧ x ≤ 255) (h0 : 0 ≤ w0 ∧ w0 ≤ 255) (h1 : 0 ≤ w1 ∧ w1 ≤ 255) (h2 : 0 ≤ w2 ∧ w2 ≤ 255) :
    Am.Fn Try.prog 4 [0] [.slc (l.map U), .agg [U w0, U w1, U w2]] (.bool true) := by
  obtain ⟨cells, hc, hcl, hM⟩ := Made_fn l hl hb
  obtain ⟨W, a, b, f1, f2, f3, f4, hF⟩ := frame_nat w0 w1 w2 h0 h1 h2
  have hB := breakP_fn cells W a b (by omega)
  rw [breakR_clean .tup hc (by omega) (by omega) (by omega)] at hB
  have hLg := long_fn cells ((W : Int) - max (a : Int) b) (by omega)
  have hmx : ∀ [inst : Decidable (a < b)], (if a < b then (b : Int) else (a : Int)) = max (a : Int) b := by intro _; split <;> omega
  have hsub : IntKind.i64.wrap ((W : Int) - max (a : Int) b) = (W : Int) - max (a : Int) b := wrap_ok (by omega) (by omega)
  have et : List.take cells.length (List.map U cells) = List.map U cells := List.take_of_length_le (by simp)
  refine fn_introX mixed (X := X4) c4 8 (by simp [X4]) fun Q hR hN => ?_
  simp [X4]
  refine call_of sanity_fn ?_
  simp
  refine call_of hM ?_
  simp
  refine call_of hF ?_
  simp [et]
  refine call_of hB ?_
  by_cases hlong : 0 ≤ longG ((W : Int) - max (a : Int) b) 0 (words cells)
  · rw [if_pos hlong]
    simp [errR, et, hmx, hsub]
    refine call_of hLg ?_
    simp
    refine hR _ _ ?_
    simp [X4]
  · rw [if_neg hlong]
    obtain ⟨j1, j2⟩ := join_brk (W := W) (a := a) (b := b) hc
    have hbb := brk_bounds5 (W := W) (a := a) (b := b) (l := cells) (by omega) (by omega) (by omega) (by omega)
    rw [if_neg hlong] at hB
    obtain ⟨L, hL⟩ : ∃ L, brk W a b (words cells) = L := ⟨_, rfl⟩
    rw [hL] at hB hbb j1 j2 ⊢
    have hJ := joinP_fn L a b (by omega) (by omega) (by omega) (fun r hr => by have := hbb.2 r hr; omega)
    rw [joinR, if_neg j2, j1] at hJ
    have et2 : List.take L.length (List.map CL L) = List.map CL L := List.take_of_length_le (by simp)
    have hS := Same_fn L L (by unfold maxLen; omega) (fun r hr => by have := hbb.2 r hr; unfold maxLen; omega)
    have hSl := SameLine_fn cells cells (by unfold maxLen; omega)
    rw [beq_self_eq_true] at hS hSl
    simp [frzUCL, et2]
    refine call_of hJ ?_
    simp [et]
    refine call_of hB ?_
    simp [et]
    refine call_of hSl ?_
    simp [frzUCL, et2]
    refine call_of hS ?_
    simp
    refine hR _ _ ?_
    simp [X4]
theorem Fewest_law (l : List Int) (w0 w1 w2 : Int) (hl : l.length ≤ maxLen) (hb : ∀ x ∈ l, 0 ≤ x ∧ x ≤ 255) (h0 : 0 ≤ w0 ∧ w0 ≤ 255) (h1 : 0 ≤ w1 ∧ w1 ≤ 255) (h2 : 0 ≤ w2 ∧ w2 ≤ 255) :
    Am.Fn Try.prog 6 [0] [.slc (l.map U), .agg [U w0, U w1, U w2]] (.bool true) := by
  obtain ⟨cells, hc, hcl, hM⟩ := Made_fn l hl hb
  obtain ⟨W, a, b, f1, f2, f3, f4, hF⟩ := frame_nat w0 w1 w2 h0 h1 h2
  have hB := breakP_fn cells W a b (by omega)
  rw [breakR_clean .tup hc (by omega) (by omega) (by omega)] at hB
  have et : List.take cells.length (List.map U cells) = List.map U cells := List.take_of_length_le (by simp)
  refine fn_introX mixed (X := X6) c6 7 (by simp [X6]) fun Q hR hN => ?_
  simp [X6]
  refine call_of sanity_fn ?_
  simp
  refine call_of hM ?_
  simp
  refine call_of hF ?_
  simp [et]
  refine call_of hB ?_
  by_cases hlong : 0 ≤ longG ((W : Int) - max (a : Int) b) 0 (words cells)
  · rw [if_pos hlong]
    simp [errR, et]
    refine hR _ _ ?_
    simp [X6]
  · rw [if_neg hlong] at hB ⊢
    obtain ⟨n1, n2⟩ := wordsG_len cells []
    have hws := words_fn cells (by omega)
    have hfit := longG_neg (by omega) (show longG ((W : Int) - max (a : Int) b) 0 (words cells) < 0 by omega)
    have hne : words cells ≠ [] := wordsG_ne cells []
    obtain ⟨ws, hw⟩ : ∃ ws, words cells = ws := ⟨_, rfl⟩
    have n1' : ws.length ≤ cells.length + 1 := by rw [← hw]; exact n1
    have n2' : ∀ v ∈ ws, v.length ≤ 1000 := fun v hv => by have := n2 v (by rw [← hw] at hv; exact hv); simp at this; omega
    rw [hw] at hws hfit hne hB ⊢
    have hFw := fewest_fn ws W a b (by omega) n2' (by omega) (by omega) (by omega)
    rw [fewest_brk (fun w hw => by have := hfit w hw; omega) hne] at hFw
    have et2 : List.take ws.length (List.map CL ws) = List.map CL ws := List.take_of_length_le (by simp)
    simp [et]
    refine call_of hws ?_
    simp [frzUCL, et2]
    refine call_of hFw ?_
    simp
    refine hR _ _ ?_
    simp [X6]
end Go.Proofs.Ytnlapjkfbodbkaa.L
