/-
  Chapter 18: LineJoins walked.
-/
import Derived.Test.YtnlapjkfbodbkaaLwX
import Derived.Test.YtnlapjkfbodbkaaLwP
namespace Go.Proofs.Ytnlapjkfbodbkaa.L
set_option linter.unusedSimpArgs false
set_option linter.unusedVariables false
set_option linter.unusedSectionVars false
open Go.Proofs.Ytnlapjkfbodbkaa.Am
set_option maxHeartbeats 16000000
theorem joinG_len (a b : Nat) {M : Nat} : ∀ (l : List Word) (k : Nat) (out w : Word) (e : Int), (∀ r ∈ l, r.length ≤ M) → joinG a b k out l = (some w, e) → w.length ≤ out.length + l.length * (M + 1)
  | [], k, out, w, e, _, h => by simp [joinG] at h; rw [← h.1]; omega
  | r :: t, k, out, w, e, hr, h => by
    rw [joinG] at h
    by_cases hA : indent r ≠ (if k = 0 then a else b)
    · rw [if_pos hA] at h; cases h
    · rw [if_neg hA] at h
      by_cases hB : (clean (r.drop (if k = 0 then a else b))).2 = false
      · rw [if_pos hB] at h; cases h
      · rw [if_neg hB] at h
        have h2 := joinG_len a b t (k + 1) _ w e (fun x hx => hr x (by simp [hx])) h
        have h1 := hr r (by simp)
        refine Nat.le_trans h2 ?_
        rw [List.length_cons, Nat.add_mul]
        split <;> simp <;> omega
theorem joinR_cases (l : List Word) (a b : Nat) (hl : l.length ≤ 1000) (hr : ∀ r ∈ l, r.length ≤ 1000) : ∃ (o : Option Word) (k e : Int), (∀ f : Word → PV, joinR f l a b = .tup [match o with | none => .nils | some w => f w, I k, I e]) ∧ ∀ w, o = some w → w.length ≤ maxLen := by
  by_cases h0 : l = []
  · exact ⟨none, 0, 180, fun f => by rw [joinR, if_pos h0], fun w h => by cases h⟩
  · cases hj : joinG a b 0 [] l with
    | mk o k =>
      cases o with
      | none => exact ⟨none, k, 180, fun f => by rw [joinR, if_neg h0, hj], fun w h => by cases h⟩
      | some w =>
        refine ⟨some w, 0, 0, fun f => by rw [joinR, if_neg h0, hj], fun w' h => ?_⟩
        cases h
        have := joinG_len a b l 0 [] w k hr hj
        have h2 : l.length * (1000 + 1) ≤ 1000 * (1000 + 1) := Nat.mul_le_mul_right _ hl
        unfold maxLen; simp at this; omega
theorem Joins_fn (raw : List Word) (l : List Int) (w0 w1 w2 w3 w4 : Int) (hraw : raw.length ≤ maxLen) (hrr : ∀ r ∈ raw, r.length ≤ maxLen) (hl : l.length ≤ maxLen) (hb : ∀ x ∈ l, 0 ≤ x ∧ x ≤ 255) (h0 : 0 ≤ w0 ∧ w0 ≤ 255) (h1 : 0 ≤ w1 ∧ w1 ≤ 255) (h2 : 0 ≤ w2 ∧ w2 ≤ 255) (h3 : 0 ≤ w3 ∧ w3 ≤ 255) (h4 : 0 ≤ w4 ∧ w4 ≤ 255) :
    Am.Fn Try.prog 8 [0] [CLL raw, .slc (l.map U), .agg [U w0, U w1, U w2, U w3, U w4]] (.bool true) := by
  obtain ⟨cells, hc, hcl, hM⟩ := Made_fn l hl hb
  obtain ⟨W, a, b, f1, f2, f3, f4, hF⟩ := frame_nat w0 w1 w2 h0 h1 h2
  have hB := breakRef_fn cells W a b (by omega)
  rw [breakR_clean .agg hc (by omega) (by omega) (by omega)] at hB
  have et : List.take cells.length (List.map U cells) = List.map U cells := List.take_of_length_le (by simp)
  refine fn_introX mixed (X := X8) c8 19 (by simp [X8]) fun Q hR hN' => ?_
  simp [X8]
  refine call_of sanity_fn ?_
  simp
  refine loopX (fun (s : Nat × List Word) vs h => s.1 ≤ raw.length ∧ s.1 ≤ 6 ∧ s.2.length = s.1 ∧ (∀ r ∈ s.2, r.length ≤ 12) ∧
    vs = [CLL raw, .slc (l.map U), .undef, .ptr 14 1 0, .undef, .bool true, .own 15 1 s.2.length 1 0 s.2.length, I s.1, .undef, .undef, .undef, .undef, .undef, .undef, .undef, .undef, .undef, .undef, .undef, .undef, .undef, .undef, .undef, .undef, .undef, .undef, .undef, .undef, .undef] ∧
    h = List.replicate 14 (0, .dead) ++ [(1, .var [U w0, U w1, U w2, U w3, U w4]), (1, .arr 1 0 false (s.2.map UCL)), (0, .dead), (0, .dead), (0, .dead)]) (fun s => 6 - s.1) (0, []) ?_ ?_
  · simp
  · rintro ⟨i, Ls⟩ vs h ⟨i1, i2, i3, i4, rfl, rfl⟩ Q1 hK hX hR'
    dsimp only at i1 i2 i3 i4
    have fin : ∀ v24, Q1 (.exit 0) [CLL raw, .slc (l.map U), .undef, .ptr 14 1 0, .undef, .bool true, .own 15 1 Ls.length 1 0 Ls.length, I i, .undef, .undef, .undef, .undef, .undef, .undef, .undef, .undef, .undef, .undef, .undef, .undef, .undef, .undef, .undef, .undef, v24, .undef, .undef, .undef, .undef] (List.replicate 14 (0, .dead) ++ [(1, .var [U w0, U w1, U w2, U w3, U w4]), (1, .arr 1 0 false (Ls.map UCL)), (0, .dead), (0, .dead), (0, .dead)]) := fun v24 => by
      refine hX _ _ _ ?_
      simp
      refine call_of hF ?_
      simp
      refine call_of hM ?_
      simp [et]
      refine call_of hB ?_
      have hJ1 := joinP_fn Ls a b (by omega) (by omega) (by omega) (fun r hr => by have := i4 r hr; omega)
      have hJ2 := join_fn Ls a b (by omega) (by omega) (by omega) (fun r hr => by have := i4 r hr; omega)
      obtain ⟨o1, k1, e1, c1, c2⟩ := joinR_cases Ls a b (by omega) (fun r hr => by have := i4 r hr; omega)
      rw [c1] at hJ1 hJ2
      have et2 : List.take Ls.length (List.map CL Ls) = List.map CL Ls := List.take_of_length_le (by simp)
      have hbad := joinP_bad Ls 0 (17 + w3) (by simp [okI]; omega)
      have hw3 : IntKind.i64.wrap w3 = w3 := wrap_ok (by omega) (by omega)
      have hw17 : IntKind.i64.wrap (17 + w3) = 17 + w3 := wrap_ok (by omega) (by omega)
      by_cases hlong : 0 ≤ longG ((W : Int) - max (a : Int) b) 0 (words cells)
      · rw [if_pos hlong]
        simp [errR]
        refine loopX (fun (k : Nat) vs h => k ≤ 2 ∧
          vs = [.undef, .undef, .undef, .ptr 14 1 0, .undef, .bool true, .own 15 1 Ls.length 1 0 Ls.length, .undef, .undef, .undef, .undef, .ptr 16 1 0, .undef, .undef, .undef, .ptr 17 1 0, I k, .undef, .undef, .undef, .undef, .undef, .undef, .undef, .undef, .undef, .undef, .undef, .undef] ∧
          h = List.replicate 14 (0, .dead) ++ [(1, .var [U w0, U w1, U w2, U w3, U w4]), (1, .arr 1 0 false (Ls.map UCL)), (1, .var [I a, I b]), (1, .var [.own 15 1 Ls.length 1 0 Ls.length, .nils]), (0, .dead)]) (fun k => 2 - k) 0 ?_ ?_
        · simp
        · rintro k vs h ⟨k2, rfl, rfl⟩ Q3 hK3 hX3 hR3
          have hS0 := SameLine_fn [] [] (by simp)
          rw [beq_self_eq_true] at hS0
          by_cases hk0 : k = 0
          · subst hk0
            have u1 : IntKind.i64.wrap (1 : Int) = 1 := rfl
            cases o1 with
            | none =>
              simp [et2, frzUCL]
              refine call_of hJ1 ?_
              simp [et2, frzUCL]
              refine call_of hJ2 ?_
              simp
              refine call_of hS0 ?_
              simp [u1]
              refine hK3 1 _ _ (by omega) ?_
              simp
            | some w =>
              have hS := SameLine_fn w w (c2 w rfl)
              rw [beq_self_eq_true] at hS
              have et4 : List.take w.length (List.map U w) = List.map U w := List.take_of_length_le (by simp)
              simp [et2, frzUCL]
              refine call_of hJ1 ?_
              simp [et2, frzUCL]
              refine call_of hJ2 ?_
              simp [et4]
              refine call_of hS ?_
              simp [u1]
              refine hK3 1 _ _ (by omega) ?_
              simp
          · by_cases hk1 : k = 1
            · subst hk1
              have u1 : IntKind.i64.wrap (2 : Int) = 2 := rfl
              have hE1 := joinP_fn [] a b (by omega) (by omega) (by simp) (by simp)
              have hE2 := join_fn [] a b (by omega) (by omega) (by simp) (by simp)
              rw [joinR, if_pos rfl] at hE1 hE2
              simp
              refine call_of hE1 ?_
              simp
              refine call_of hE2 ?_
              simp
              refine call_of hS0 ?_
              simp [u1]
              refine hK3 2 _ _ (by omega) ?_
              simp
            · obtain rfl : k = 2 := by omega
              simp
              refine hX3 _ _ _ ?_
              simp [et2, frzUCL, hw3, hw17]
              refine call_of hbad ?_
              simp
              refine hR _ _ ?_
              simp [X8]
      · rw [if_neg hlong]
        obtain ⟨G, g1, g2, g3, g4, _⟩ := brk_groups (W := W) (a := a) (b := b) hc
        have hbb := brk_bounds5 (W := W) (a := a) (b := b) (l := cells) (by omega) (by omega) (by omega) (by omega)
        have hget := linesOf_get b G a
        have hlen := linesOf_len a b G
        rw [g4] at hbb ⊢
        obtain ⟨L, hL⟩ : ∃ L, linesOf a b G = L := ⟨_, rfl⟩
        simp only [hL] at hbb hget hlen
        rw [hL]
        have hpos : 0 < L.length := by rw [hlen]; exact List.length_pos_iff.2 g1
        have hne : ¬ L = [] := fun e => by rw [e] at hpos; simp at hpos
        have hne2 : ¬ L.length = 0 := by omega
        have hw4 : IntKind.i64.wrap w4 = w4 := wrap_ok (by omega) (by omega)
        obtain ⟨x, hx, hxl⟩ : ∃ x : Nat, w3.tmod (L.length : Int) = (x : Int) ∧ x < L.length := by
          have e1 := Int.emod_nonneg w3 (show (L.length : Int) ≠ 0 by omega)
          have e2 := Int.emod_lt_of_pos w3 (show (0 : Int) < (L.length : Int) by omega)
          rw [Int.tmod_eq_emod_of_nonneg h3.1]
          exact ⟨(w3 % (L.length : Int)).toNat, by omega, by omega⟩
        have hrow : 0 < L[x].length := by
          rw [hget x (by omega)]
          obtain ⟨q1, q2⟩ := g2 _ (List.getElem_mem (show x < G.length by omega))
          obtain ⟨c, r, e, _⟩ := ic_head q1 q2
          simp [e]
          omega
        have hrow2 : ¬ L[x].length = 0 := by omega
        obtain ⟨y, hy, hyl⟩ : ∃ y : Nat, w4.tmod (L[x].length : Int) = (y : Int) ∧ y < L[x].length := by
          have e1 := Int.emod_nonneg w4 (show (L[x].length : Int) ≠ 0 by omega)
          have e2 := Int.emod_lt_of_pos w4 (show (0 : Int) < (L[x].length : Int) by omega)
          rw [Int.tmod_eq_emod_of_nonneg h4.1]
          exact ⟨(w4 % (L[x].length : Int)).toNat, by omega, by omega⟩
        have hrow3 : ¬ L[x] = [] := fun e => by rw [e] at hrow; simp at hrow
        obtain ⟨M, hM'⟩ : ∃ M, L.set x (L[x].set y (w3.tmod 3)) = M := ⟨_, rfl⟩
        have hML : M.length = L.length := by rw [← hM']; simp
        have hMr : ∀ r ∈ M, r.length ≤ 600 := fun r hr => by
          rw [← hM'] at hr
          rcases List.mem_or_eq_of_mem_set hr with hr | rfl
          · exact hbb.2 r hr
          · have := hbb.2 _ (List.getElem_mem hxl); simpa using this
        have hJ3 := joinP_fn M a b (by omega) (by omega) (by omega) (fun r hr => by have := hMr r hr; omega)
        have hJ4 := join_fn M a b (by omega) (by omega) (by omega) (fun r hr => by have := hMr r hr; omega)
        obtain ⟨o2, k2, e2, c3, c4⟩ := joinR_cases M a b (by omega) (fun r hr => by have := hMr r hr; omega)
        rw [c3] at hJ3 hJ4
        have et5 : List.take M.length (List.map CL M) = List.map CL M := List.take_of_length_le (by simp)
        have eM : (List.map UCL L).set x (PV.uslc ((List.map U L[x]).set y (PV.int IntKind.u8 (w3.tmod 3)))) = List.map UCL M := by
          rw [← hM', List.map_set]
          show _ = (List.map UCL L).set x (PV.uslc (List.map U (L[x].set y (w3.tmod 3))))
          rw [List.map_set]
        have eL : L.length = M.length := hML.symm
        simp [hpos, hne, hne2, hw3, hw4, hx, hxl, hrow, hrow2, hrow3, hy, hyl, eM]
        refine loopX (fun (k : Nat) vs h => k ≤ 2 ∧
          vs = [.undef, .undef, .undef, .ptr 14 1 0, .undef, .bool true, .own 15 1 Ls.length 1 0 Ls.length, .undef, .undef, .undef, .undef, .ptr 16 1 0, .undef, .undef, .undef, .ptr 17 1 0, I k, .undef, .undef, .undef, .undef, .undef, .undef, .undef, .undef, .undef, .undef, .undef, .undef] ∧
          h = List.replicate 14 (0, .dead) ++ [(1, .var [U w0, U w1, U w2, U w3, U w4]), (1, .arr 1 0 false (Ls.map UCL)), (1, .var [I a, I b]), (1, .var [.own 15 1 Ls.length 1 0 Ls.length, .own 18 1 M.length 1 0 M.length]), (1, .arr 1 0 false (M.map UCL))]) (fun k => 2 - k) 0 ?_ ?_
        · simp [eL]
        · rintro k vs h ⟨k2, rfl, rfl⟩ Q3 hK3 hX3 hR3
          have hS0 := SameLine_fn [] [] (by simp)
          rw [beq_self_eq_true] at hS0
          by_cases hk0 : k = 0
          · subst hk0
            have u1 : IntKind.i64.wrap (1 : Int) = 1 := rfl
            cases o1 with
            | none =>
              simp [et2, frzUCL]
              refine call_of hJ1 ?_
              simp [et2, frzUCL]
              refine call_of hJ2 ?_
              simp
              refine call_of hS0 ?_
              simp [u1]
              refine hK3 1 _ _ (by omega) ?_
              simp
            | some w =>
              have hS := SameLine_fn w w (c2 w rfl)
              rw [beq_self_eq_true] at hS
              have et4 : List.take w.length (List.map U w) = List.map U w := List.take_of_length_le (by simp)
              simp [et2, frzUCL]
              refine call_of hJ1 ?_
              simp [et2, frzUCL]
              refine call_of hJ2 ?_
              simp [et4]
              refine call_of hS ?_
              simp [u1]
              refine hK3 1 _ _ (by omega) ?_
              simp
          · by_cases hk1 : k = 1
            · subst hk1
              have u1 : IntKind.i64.wrap (2 : Int) = 2 := rfl
              cases o2 with
              | none =>
                simp [et5, frzUCL]
                refine call_of hJ3 ?_
                simp [et5, frzUCL]
                refine call_of hJ4 ?_
                simp
                refine call_of hS0 ?_
                simp [u1]
                refine hK3 2 _ _ (by omega) ?_
                simp
              | some w =>
                have hS := SameLine_fn w w (c4 w rfl)
                rw [beq_self_eq_true] at hS
                have et4 : List.take w.length (List.map U w) = List.map U w := List.take_of_length_le (by simp)
                simp [et5, frzUCL]
                refine call_of hJ3 ?_
                simp [et5, frzUCL]
                refine call_of hJ4 ?_
                simp [et4]
                refine call_of hS ?_
                simp [u1]
                refine hK3 2 _ _ (by omega) ?_
                simp
            · obtain rfl : k = 2 := by omega
              simp
              refine hX3 _ _ _ ?_
              simp [et2, frzUCL, hw3, hw17]
              refine call_of hbad ?_
              simp
              refine hR _ _ ?_
              simp [X8]
    by_cases hi : i < raw.length
    · by_cases hi2 : (i : Int) < 6
      · have hw1 : IntKind.i64.wrap ((i : Int) + 1) = (i : Int) + 1 := wrap_ok (by omega) (by omega)
        have hrl := hrr _ (List.getElem_mem hi)
        simp [hi, hi2]
        refine loopX (fun (s : Nat × Word) vs h => s.1 ≤ raw[i].length ∧ s.1 ≤ 12 ∧ s.2.length = s.1 ∧
          vs = [CLL raw, .slc (l.map U), .undef, .ptr 14 1 0, .undef, .bool true, .own 15 1 Ls.length 1 0 Ls.length, I i, .own 16 1 s.2.length 1 0 s.2.length, I s.1, .undef, .undef, .undef, .undef, .undef, .undef, .undef, .undef, .undef, .undef, .undef, .undef, .undef, .undef, .undef, .undef, .undef, .undef, .undef] ∧
          h = List.replicate 14 (0, .dead) ++ [(1, .var [U w0, U w1, U w2, U w3, U w4]), (1, .arr 1 0 false (Ls.map UCL)), (1, .arr 1 0 false (s.2.map U)), (0, .dead), (0, .dead)]) (fun s => 12 - s.1) (0, []) ?_ ?_
        · simp
        · rintro ⟨k, o⟩ vs h ⟨k1, k2, k3, rfl, rfl⟩ Q2 hK2 hX2 hR2
          dsimp only at k1 k2 k3
          have fin2 : ∀ v25, Q2 (.exit 2) [CLL raw, .slc (l.map U), .undef, .ptr 14 1 0, .undef, .bool true, .own 15 1 Ls.length 1 0 Ls.length, I i, .own 16 1 o.length 1 0 o.length, I k, .undef, .undef, .undef, .undef, .undef, .undef, .undef, .undef, .undef, .undef, .undef, .undef, .undef, .undef, .undef, v25, .undef, .undef, .undef] (List.replicate 14 (0, .dead) ++ [(1, .var [U w0, U w1, U w2, U w3, U w4]), (1, .arr 1 0 false (Ls.map UCL)), (1, .arr 1 0 false (o.map U)), (0, .dead), (0, .dead)]) := fun v25 => by
            refine hX2 _ _ _ ?_
            have b1 : (Ls.length + 1) * 24 ≤ 140737488355328 := by omega
            simp [b1, hw1]
            refine hK (i + 1, Ls ++ [o]) _ _ (by dsimp only; omega) ?_
            simp
            refine ⟨by omega, by omega, by omega, fun r hr => ?_⟩
            rcases hr with hr | rfl
            · exact i4 r hr
            · omega
          by_cases hk : k < raw[i].length
          · by_cases hk2 : (k : Int) < 12
            · have b1 : o.length + 1 ≤ 140737488355328 := by omega
              have hw2 : IntKind.i64.wrap ((k : Int) + 1) = (k : Int) + 1 := wrap_ok (by omega) (by omega)
              simp [hi, hk, hk2, b1, hw2]
              refine hK2 (k + 1, o ++ [raw[i][k].tmod 66]) _ _ (by dsimp only; omega) ?_
              simp
              omega
            · simp [hi, hk, hk2]
              exact fin2 _
          · simp [hi, hk]
            exact fin2 _
      · simp [hi, hi2]
        exact fin _
    · simp [hi]
      exact fin _
end Go.Proofs.Ytnlapjkfbodbkaa.L
