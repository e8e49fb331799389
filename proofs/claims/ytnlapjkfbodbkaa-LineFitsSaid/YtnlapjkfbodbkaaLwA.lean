/-
  Chapter 18: LineFits walked.
-/
import Derived.Test.YtnlapjkfbodbkaaLwX
import Derived.Test.YtnlapjkfbodbkaaLwP
namespace Go.Proofs.Ytnlapjkfbodbkaa.L
set_option linter.unusedSimpArgs false
set_option linter.unusedVariables false
set_option linter.unusedSectionVars false
open Go.Proofs.Ytnlapjkfbodbkaa.Am
set_option maxHeartbeats 8000000
theorem Fits_fn (l : List Int) (w0 w1 w2 : Int) (hl : l.length ≤ maxLen) (hb : ∀ x ∈ l, 0 ≤ x ∧ x ≤ 255) (h0 : 0 ≤ w0 ∧ w0 ≤ 255) (h1 : 0 ≤ w1 ∧ w1 ≤ 255) (h2 : 0 ≤ w2 ∧ w2 ≤ 255) :
    Am.Fn Try.prog 5 [0] [.slc (l.map U), .agg [U w0, U w1, U w2]] (.bool true) := by
  obtain ⟨cells, hc, hcl, hM⟩ := Made_fn l hl hb
  obtain ⟨W, a, b, f1, f2, f3, f4, hF⟩ := frame_nat w0 w1 w2 h0 h1 h2
  have hB := breakP_fn cells W a b (by omega)
  rw [breakR_clean .tup hc (by omega) (by omega) (by omega)] at hB
  have hLg := long_fn cells ((W : Int) - max (a : Int) b) (by omega)
  have hmx : ∀ [inst : Decidable (a < b)], (if a < b then (b : Int) else (a : Int)) = max (a : Int) b := by intro _; split <;> omega
  have hsub : IntKind.i64.wrap ((W : Int) - max (a : Int) b) = (W : Int) - max (a : Int) b := wrap_ok (by omega) (by omega)
  have et : List.take cells.length (List.map U cells) = List.map U cells := List.take_of_length_le (by simp)
  refine fn_introX mixed (X := X5) c5 7 (by simp [X5]) fun Q hR hN => ?_
  simp [X5]
  refine call_of sanity_fn ?_
  simp
  refine call_of hM ?_
  simp
  refine call_of hF ?_
  simp [et]
  refine call_of hB ?_
  by_cases hlong : 0 ≤ longG ((W : Int) - max (a : Int) b) 0 (words cells)
  · rw [if_pos hlong]
    simp [errR, et, hmx, hsub]
    refine call_of hLg ?_
    simp [hlong]
    refine hR _ _ ?_
    simp [X5]
  · rw [if_neg hlong]
    obtain ⟨G, g1, g2, g3, g4, g5⟩ := brk_groups (W := W) (a := a) (b := b) hc
    have g6 := line_fits G a (g5 (by omega))
    rw [g4]
    have hbb := brk_bounds5 (W := W) (a := a) (b := b) (l := cells) (by omega) (by omega) (by omega) (by omega)
    rw [g4] at hbb
    have hget := linesOf_get b G a
    have hlen := linesOf_len a b G
    obtain ⟨L, hL⟩ : ∃ L, linesOf a b G = L := ⟨_, rfl⟩
    simp only [hL] at hbb hget hlen
    rw [hL]
    have hpos : 0 < L.length := by rw [hlen]; exact List.length_pos_iff.2 g1
    simp [frzUCL]
    refine loopX (fun (i : Nat) vs h => i ≤ L.length ∧
      vs = [.undef, .undef, .undef, .undef, .bool true, .undef, I W, .ptr 5 1 0, .own 6 1 L.length 1 0 L.length, .undef, I i, .undef, .undef, .undef, .undef, .undef, .undef] ∧
      h = List.replicate 5 (0, .dead) ++ [(1, .var [I a, I b]), (1, .arr 1 0 true (L.map CL))]) (fun i => L.length - i) 0 ?_ ?_
    · simp
    · rintro i vs h ⟨i1, rfl, rfl⟩ Q1 hK hX hR'
      have w1 : IntKind.i64.wrap ((i : Int) + 1) = (i : Int) + 1 := wrap_ok (by omega) (by omega)
      by_cases hi : i < L.length
      · have hiG : i < G.length := by omega
        obtain ⟨q1, q2⟩ := g2 _ (List.getElem_mem hiG)
        obtain ⟨q3, q4⟩ := g6 i hiG
        have q5 := hget i hiG
        have hrow := hbb.2 _ (List.getElem_mem hi)
        obtain ⟨n, hn⟩ : ∃ n : Nat, (if i = 0 then a else b) = n := ⟨_, rfl⟩
        rw [hn] at q3 q5
        have hn8 : n ≤ 8 := by rw [← hn]; split <;> omega
        have hlen2 : L[i].length = n + (ic G[i]).length := by rw [q5]; simp
        have hInd := Indent_fn L[i] (by unfold maxLen; omega)
        rw [show indent L[i] = n by rw [q5]; exact indent_line q1 q2] at hInd
        have hdrop : L[i].drop n = ic G[i] := by rw [q5, drop_line]
        have hCl := clean_fn (ic G[i]) (by unfold maxLen; omega)
        rw [clean_ic q1 q2] at hCl
        have hWo := words_fn (ic G[i]) (by omega)
        rw [words_ic _ q1 (fun w hw c hc => ((q2 w hw).2 c hc).1)] at hWo
        have u1 : ¬ (W : Int) < (L[i].length : Int) := by omega
        have u2 : (n : Int) ≤ (L[i].length : Int) := by omega
        have u3 : List.take (L[i].length - n) (List.drop n (List.map U L[i])) = List.map U (ic G[i]) := by
          rw [← List.map_drop, hdrop]; exact List.take_of_length_le (by simp; omega)
        have ge : List.take G[i].length (List.map CL G[i]) = List.map CL G[i] := List.take_of_length_le (by simp)
        by_cases hi0 : i = 0
        · have m1 : ∀ [inst : Decidable ((1 : Int) < (i : Int))], (if (1 : Int) < (i : Int) then (1 : Int) else (i : Int)) = 0 := by intro _; split <;> omega
          have hna : n = a := by rw [← hn, if_pos hi0]
          subst hna
          have t0 : ¬ 0 < i := by omega
          simp [hi, m1, u1]
          refine call_of hInd ?_
          simp [hi, u2, u3]
          refine call_of hCl ?_
          simp [t0, w1]
          refine hK (i + 1) _ _ (by omega) ?_
          simp
          omega
        · have m1 : ∀ [inst : Decidable ((1 : Int) < (i : Int))], (if (1 : Int) < (i : Int) then (1 : Int) else (i : Int)) = 1 := by intro _; split <;> omega
          have hna : n = b := by rw [← hn, if_neg hi0]
          subst hna
          have t0 : 0 < i := by omega
          have hj : i - 1 < L.length := by omega
          have hjG : i - 1 < G.length := by omega
          have p1 := hget (i - 1) hjG
          have p2 := q4 (i - 1) hjG (by omega)
          have p3 := hbb.2 _ (List.getElem_mem hj)
          have p4 : L[i - 1].length = (if i - 1 = 0 then a else n) + (ic G[i - 1]).length := by rw [p1]; simp
          obtain ⟨v, r, hgi⟩ : ∃ v r, G[i] = v :: r := by
            cases hg : G[i] with
            | nil => exact absurd hg q1
            | cons v r => exact ⟨v, r, rfl⟩
          have p5 : (ic G[i]).length ≤ 600 := by omega
          have p6 : v.length ≤ (ic G[i]).length := by rw [hgi]; cases r <;> simp [ic]
          rw [show List.map UCL G[i] = List.map UCL (v :: r) from by rw [hgi]] at hWo
          rw [hgi] at p2
          simp only [List.headD_cons] at p2
          have v1 : IntKind.i64.wrap ((i : Int) - 1) = ((i - 1 : Nat) : Int) := by rw [wrap_ok (by omega) (by omega)]; omega
          have v2 : IntKind.i64.wrap ((L[i - 1].length : Int) + 1) = (L[i - 1].length : Int) + 1 := wrap_ok (by omega) (by omega)
          have v3 : IntKind.i64.wrap ((L[i - 1].length : Int) + 1 + (v.length : Int)) = (L[i - 1].length : Int) + 1 + (v.length : Int) := wrap_ok (by omega) (by omega)
          have v4 : ¬ (L[i - 1].length : Int) + 1 + (v.length : Int) ≤ (W : Int) := by omega
          simp [hi, m1, u1]
          refine call_of hInd ?_
          simp [hi, u2, u3]
          refine call_of hCl ?_
          simp [hi, t0, w1, u2, u3, v1, v2, hj]
          refine call_of hWo ?_
          simp [hi, t0, w1, v3, v4]
          refine hK (i + 1) _ _ (by omega) ?_
          simp
          omega
      · obtain rfl : i = L.length := by omega
        simp
        refine hX _ _ _ ?_
        simp [hpos]
        refine hR _ _ ?_
        simp [X5]
end Go.Proofs.Ytnlapjkfbodbkaa.L
