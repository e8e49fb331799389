/-
  Chapter 18: LineGrows walked.
-/
import Derived.Test.YtnlapjkfbodbkaaLwX
namespace Go.Proofs.Ytnlapjkfbodbkaa.L
set_option linter.unusedSimpArgs false
set_option linter.unusedVariables false
set_option linter.unusedSectionVars false
open Go.Proofs.Ytnlapjkfbodbkaa.Am
set_option maxHeartbeats 16000000
theorem longG_snoc {most : Int} {w : Word} (hw : (w.length : Int) ≤ most) : ∀ (ws : List Word) (k : Int), longG most k (ws ++ [w]) = longG most k ws
  | [], k => by simp [longG]; omega
  | v :: r, k => by
    simp only [List.cons_append, longG]
    rw [longG_snoc hw r]
theorem Grows_fn (l : List Int) (w0 w1 w2 m : Int) (hl : l.length ≤ maxLen) (hb : ∀ x ∈ l, 0 ≤ x ∧ x ≤ 255) (h0 : 0 ≤ w0 ∧ w0 ≤ 255) (h1 : 0 ≤ w1 ∧ w1 ≤ 255) (h2 : 0 ≤ w2 ∧ w2 ≤ 255) (hm : 0 ≤ m ∧ m ≤ 255) :
    Am.Fn Try.prog 7 [0] [.slc (l.map U), .agg [U w0, U w1, U w2], U m] (.bool true) := by
  obtain ⟨cells, hc, hcl, hM⟩ := Made_fn l hl hb
  obtain ⟨W, a, b, f1, f2, f3, f4, hF⟩ := frame_nat w0 w1 w2 h0 h1 h2
  obtain ⟨N, hN, hN1, hN2⟩ : ∃ N : Nat, IntKind.i64.wrap (1 + (IntKind.i64.wrap m).tmod 12) = (N : Int) ∧ 1 ≤ N ∧ N ≤ 12 := by
    rw [wrap_ok (n := m) (by omega) (by omega), Int.tmod_eq_emod_of_nonneg hm.1, wrap_ok (by omega) (by omega)]
    exact ⟨(1 + m % 12).toNat, by omega, by omega, by omega⟩
  have hRn := run_fn N (by omega)
  obtain ⟨w, hw⟩ : ∃ w : Word, List.replicate N 1 = w := ⟨_, rfl⟩
  have hwl : w.length = N := by rw [← hw]; simp
  have hwd : wd w := ⟨fun e => by (rw [e] at hwl; simp at hwl; omega), fun c hc => by rw [← hw] at hc; have := (List.mem_replicate.1 hc).2; omega⟩
  rw [hw] at hRn
  have hB := breakP_fn cells W a b (by omega)
  rw [breakR_clean .tup hc (by omega) (by omega) (by omega)] at hB
  have hB2 := breakP_fn (cells ++ 0 :: w) W a b (by simp; omega)
  rw [breakR_clean .tup (by rw [clean_snoc hc hwd]) (by omega) (by omega) (by omega)] at hB2
  have hws : words (cells ++ 0 :: w) = words cells ++ [w] := wordsG_snoc w (fun c hc => (hwd.2 c hc).1) cells []
  rw [hws, longG_snoc (by omega)] at hB2
  have et : List.take cells.length (List.map U cells) = List.map U cells := List.take_of_length_le (by simp)
  have et2 : List.take w.length (List.map U w) = List.map U w := List.take_of_length_le (by simp)
  have b1 : cells.length ≤ 140737488355328 := by omega
  have b2 : cells.length + 1 ≤ 140737488355328 := by omega
  have b3 : cells.length + 1 + w.length ≤ 140737488355328 := by omega
  obtain ⟨big, hbig⟩ : ∃ big, cells ++ 0 :: w = big := ⟨_, rfl⟩
  have e1 : List.map (PV.int IntKind.u8) cells ++ PV.int IntKind.u8 0 :: List.map (PV.int IntKind.u8) w = List.map U big := by rw [← hbig]; simp
  have e2 : cells.length + 1 + w.length = big.length := by rw [← hbig]; simp; omega
  have et3 : List.take big.length (List.map U big) = List.map U big := List.take_of_length_le (by simp)
  have b4 : big.length ≤ 140737488355328 := by omega
  rw [hbig] at hB2
  refine fn_introX mixed (X := X7) c7 18 (by simp [X7]) fun Q hR hN' => ?_
  simp [X7]
  refine call_of sanity_fn ?_
  simp
  refine call_of hM ?_
  simp
  refine call_of hF ?_
  simp [hN]
  refine call_of hRn ?_
  simp [et, et2, b1, b2, b3, e1, e2, b4]
  refine call_of hB ?_
  by_cases hlong : 0 ≤ longG ((W : Int) - max (a : Int) b) 0 (words cells)
  · rw [if_pos hlong] at hB2 ⊢
    simp [errR, et3]
    refine call_of hB2 ?_
    simp [errR]
    refine hR _ _ ?_
    simp [X7]
  · rw [if_neg hlong] at hB2 ⊢
    have hne : words cells ≠ [] := wordsG_ne cells []
    obtain ⟨v, r, hvr⟩ : ∃ v r, words cells = v :: r := by
      cases hg : words cells with
      | nil => exact absurd hg hne
      | cons v r => exact ⟨v, r, rfl⟩
    obtain ⟨p, last, q1, q2⟩ := brkG_snoc W b w r (zeros a ++ v)
    have q1' : brk W a b (words cells) = p ++ [last] := by rw [hvr]; exact q1
    have q2' : brk W a b (words cells ++ [w]) = if W < last.length + 1 + w.length then p ++ [last] ++ [zeros b ++ w] else p ++ [last ++ 0 :: w] := by rw [hvr]; exact q2
    have hbb := brk_bounds5 (W := W) (a := a) (b := b) (l := cells) (by omega) (by omega) (by omega) (by omega)
    obtain ⟨L1, hL1⟩ : ∃ L1, p ++ [last] = L1 := ⟨_, rfl⟩
    rw [q1', hL1] at hbb ⊢
    rw [hL1] at q2'
    rw [q2'] at hB2
    have n1 : L1.length = p.length + 1 := by rw [← hL1]; simp
    have g1 : L1[p.length]? = some last := by rw [← hL1]; simp
    have g1' : L1[p.length]'(by omega) = last := by have := List.getElem?_eq_some_iff.1 g1; exact this.2
    have hlast := hbb.2 last (by rw [← hL1]; simp)
    have hpl := hbb.1
    have t1 : ¬ L1 = [] := by rw [← hL1]; simp
    have t2 : ¬ (L1.length = 0) := by omega
    have tx : p.length < L1.length := by omega
    have ty : p.length ≤ L1.length := by omega
    have v1 : IntKind.i64.wrap ((L1.length : Int) + 1) = (L1.length : Int) + 1 := wrap_ok (by omega) (by omega)
    have v2 : IntKind.i64.wrap ((L1.length : Int) - 1) = (p.length : Int) := by rw [wrap_ok (by omega) (by omega)]; omega
    have f1 : List.take p.length (List.map CL L1) = List.map CL p := by rw [← hL1]; simp
    have f2 : List.take L1.length (List.map CL L1) = List.map CL L1 := List.take_of_length_le (by simp)
    have u1 : ¬ ((L1.length : Int) + 1 < (L1.length : Int)) := by omega
    have u2 : (0 : Int) ≤ (L1.length : Int) + 1 := by omega
    have u3 : ¬ ((L1.length : Int) + 1 < (L1.length : Int) + 1) := by omega
    have u4 : (L1.length : Int) < (L1.length : Int) + 1 := by omega
    have u5 : (L1.length : Int) ≤ (L1.length : Int) + 1 := by omega
    obtain ⟨gr, hgr⟩ : ∃ gr, last ++ 0 :: w = gr := ⟨_, rfl⟩
    have d1 : List.map (PV.int IntKind.u8) last ++ PV.int IntKind.u8 0 :: List.map (PV.int IntKind.u8) w = List.map U gr := by rw [← hgr]; simp
    have d2 : last.length + 1 + w.length = gr.length := by rw [← hgr]; simp; omega
    have d3 : List.take last.length (List.map U last) = List.map U last := List.take_of_length_le (by simp)
    have d4 : last.length ≤ 140737488355328 := by omega
    have d5 : last.length + 1 ≤ 140737488355328 := by omega
    have d6 : gr.length ≤ 140737488355328 := by omega
    by_cases t : W < last.length + 1 + w.length
    · rw [if_pos t] at hB2
      have t5 : ¬ (gr.length : Int) ≤ (W : Int) := by omega
      obtain ⟨L2, hL2⟩ : ∃ L2, L1 ++ [zeros b ++ w] = L2 := ⟨_, rfl⟩
      rw [hL2] at hB2
      have n2 : L2.length = L1.length + 1 := by rw [← hL2]; simp
      have f3 : List.take L1.length (List.map CL L2) = List.map CL L1 := by rw [← hL2]; simp
      have g2 : L2[L1.length]'(by omega) = zeros b ++ w := by have := List.getElem?_eq_some_iff.1 (show L2[L1.length]? = some (zeros b ++ w) by rw [← hL2]; simp); exact this.2
      have tz : L1.length < L2.length := by omega
      have hS := Same_fn L1 L1 (by unfold maxLen; omega) (fun r hr => by have := hbb.2 r hr; unfold maxLen; omega)
      rw [beq_self_eq_true] at hS
      simp [et3]
      refine call_of hB2 ?_
      simp [t1, t2, v1, v2, et2, d1, d2, d3, d4, d5, d6, t5, n2, tx, ty, tz, g1', u1, u2, u3, u4, u5, frzUCL, f1, f2, f3]
      refine call_of hS ?_
      obtain ⟨z, hz⟩ : ∃ z, zeros b ++ w = z := ⟨_, rfl⟩
      have z1 : List.replicate b (PV.int IntKind.u8 0) ++ List.map (PV.int IntKind.u8) w = List.map U z := by rw [← hz]; simp
      have z2 : b + w.length = z.length := by rw [← hz]; simp
      have z3 : z.length ≤ 140737488355328 := by omega
      have z4 : (b : Int) ≤ 140737488355328 ∧ (b : Int) ≤ 9223372036854775807 := by omega
      have z5 : (0 : Int) ≤ (b : Int) := by omega
      have z6 : List.take z.length (List.map U z) = List.map U z := List.take_of_length_le (by simp)
      have hS2 := SameLine_fn z z (by unfold maxLen; omega)
      rw [beq_self_eq_true] at hS2
      rw [hz] at g2
      simp [n2, tz, g2, u4, z1, z2, z3, z4, z5, z6, et2]
      refine call_of hS2 ?_
      simp
      refine hR _ _ ?_
      simp [X7]
    · rw [if_neg t] at hB2
      have t5 : (gr.length : Int) ≤ (W : Int) := by omega
      obtain ⟨L2, hL2⟩ : ∃ L2, p ++ [last ++ 0 :: w] = L2 := ⟨_, rfl⟩
      rw [hL2] at hB2
      have n2 : L2.length = L1.length := by rw [← hL2, n1]; simp
      have f3 : List.take p.length (List.map CL L2) = List.map CL p := by rw [← hL2]; simp
      have g2 : L2[p.length]'(by omega) = gr := by have := List.getElem?_eq_some_iff.1 (show L2[p.length]? = some gr by rw [← hL2, hgr]; simp); exact this.2
      have tz : p.length < L2.length := by omega
      have hS := Same_fn p p (by unfold maxLen; omega) (fun r hr => by have := hbb.2 r (by rw [← hL1]; simp [hr]); unfold maxLen; omega)
      have hS2 := SameLine_fn gr gr (by unfold maxLen; omega)
      rw [beq_self_eq_true] at hS hS2
      simp [et3]
      refine call_of hB2 ?_
      simp [t1, t2, v1, v2, et2, d1, d2, d3, d4, d5, d6, t5, n2, tx, ty, tz, g1', u1, u2, u3, u4, u5, frzUCL, f1, f2, f3]
      refine call_of hS ?_
      have z6 : List.take gr.length (List.map U gr) = List.map U gr := List.take_of_length_le (by simp)
      simp [n2, tx, tz, g2, z6]
      refine call_of hS2 ?_
      simp
      refine hR _ _ ?_
      simp [X7]
end Go.Proofs.Ytnlapjkfbodbkaa.L
