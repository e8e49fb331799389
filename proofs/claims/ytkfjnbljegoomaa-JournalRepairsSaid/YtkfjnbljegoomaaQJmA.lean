/-
  Chapter 28: JournalNoticesDamage.
-/
import Derived.Test.YtkfjnbljegoomaaQJlA
import Derived.Test.YtkfjnbljegoomaaQJmP
namespace Go.Proofs.Ytkfjnbljegoomaa.J
set_option linter.unusedSimpArgs false
set_option linter.unusedVariables false
set_option linter.unusedSectionVars false
open Go.Proofs.Ytkfjnbljegoomaa.Am
set_option maxHeartbeats 8000000
theorem setU (l : List Int) (i : Nat) (v : Int) : (List.map U l).set i (U v) = (l.set i v).map U := by rw [List.map_set]
theorem Damage_fn (l : List Raw) (at' d e : Int) (hl : ∀ x ∈ l, rawOk x) (hc : 0 ≤ at' ∧ at' ≤ 255) : Am.Fn Try.prog 6 [0] [.slc (l.map RWC), .int .u8 at', .agg [U d, U e]] (.bool true) := by
  have hM := Made_fn l 10 (by omega) hl
  have ho := made_ok l 10
  have hn := made_len l 10
  unfold made at ho hn
  generalize (l.take 10).map mkR = r at hM ho hn
  have hP := put_fn r (by omega) ho
  have hb := encs_range 0 ho
  have hbl := encs_len r 0
  obtain ⟨b, hbb⟩ : ∃ b, b = encs 0 r := ⟨_, rfl⟩
  rw [← hbb] at hP hb hbl
  by_cases h0 : r.length = 0
  · obtain rfl : r = [] := List.length_eq_zero_iff.1 h0
    have : encs 0 ([] : List Rec) = [] := rfl
    rw [hbb, this] at hP
    simp at hM hP
    have w0 : IntKind.i64.wrap 0 = 0 := rfl
    refine fn_introX mixed (X := X6) c6 6 (by simp [X6]) fun Q hR hN => ?_
    simp [X6]
    refine call_of sanity_fn ?_
    simp
    refine call_of hM ?_
    simp
    refine call_of hP ?_
    simp [w0]
    refine hR _ _ ?_
    simp [X6]
  · obtain ⟨i, hi⟩ : ∃ i : Nat, i = (at' % b.length).toNat := ⟨_, rfl⟩
    have hi1 : (i : Int) = at' % b.length := by rw [hi]; have := Int.emod_nonneg at' (show (b.length : Int) ≠ 0 by omega); omega
    have hil : i < b.length := by have := Int.emod_lt_of_pos at' (show (0 : Int) < b.length by omega); omega
    have hw : IntKind.i64.wrap (11 * (r.length : Int)) = (b.length : Int) := by rw [wrap_ok (by omega) (by omega)]; omega
    have hw3 : at'.tmod (b.length : Int) = (i : Int) := by rw [Int.tmod_eq_emod_of_nonneg hc.1, ← hi1]
    have hw2 : IntKind.i64.wrap at' = at' := wrap_ok (by omega) (by omega)
    have hw5 : IntKind.i64.wrap (i : Int) = (i : Int) := wrap_ok (by omega) (by omega)
    have hne : ¬ (b.length : Int) = 0 := by omega
    have hbn : ¬ b = [] := fun h => h0 (by rw [h] at hbl; simp at hbl; omega)
    by_cases hq : i % 11 < 10
    · obtain ⟨A, x, y, B, e1, e2, e3⟩ := damage2 ho (by omega) hq d e
      rw [← hbb] at e1 e3
      have hil2 : i + 1 < b.length := by omega
      have i1b : (i : Int) + 1 < (b.length : Int) := by omega
      have hx : b[i] = x := by
        have : b[i]? = some x := by rw [e1, ← e2]; simp
        rw [List.getElem?_eq_getElem hil] at this; exact Option.some.inj this
      have g1 : b.set i (xb x d) = A ++ xb x d :: y :: B := by rw [e1, ← e2, set_at]
      obtain ⟨b1, hb1⟩ : ∃ b1, b1 = A ++ xb x d :: y :: B := ⟨_, rfl⟩
      rw [← hb1] at g1
      have l1 : b1.length = b.length := by rw [← g1, List.length_set]
      have hy : b1[i + 1] = y := by
        have : b1[i + 1]? = some y := by rw [hb1, ← e2]; simp
        rw [List.getElem?_eq_getElem (by omega)] at this; exact Option.some.inj this
      have g2 : b1.set (i + 1) (xb y e) = A ++ xb x d :: xb y e :: B := by
        rw [hb1, ← e2]; simp
      generalize A ++ xb x d :: xb y e :: B = b2 at e3 g2
      have l2 : b2.length = b.length := by rw [← g2, List.length_set, l1]
      have m1 : List.set (List.map U b) i (U (xb x d)) = b1.map U := by rw [setU, g1]
      have m2 : List.set (List.map U b1) (i + 1) (U (xb y e)) = b2.map U := by rw [setU, g2]
      have hr2 : ∀ c ∈ b2, 0 ≤ c ∧ c ≤ 255 := fun c hc => by
        rw [← g2] at hc
        rcases List.mem_or_eq_of_mem_set hc with hc | rfl
        · rw [← g1] at hc
          rcases List.mem_or_eq_of_mem_set hc with hc | rfl
          · exact hb c hc
          · exact xb_range _ _
        · exact xb_range _ _
      have hA := Read_fn b2 (by omega) hr2
      rw [e3] at hA
      have c1 : b.length ≤ 140737488355328 := by omega
      have q1 := quo11 i (by omega)
      have q2 := quo11' i (by omega)
      have t1 : (i : Int).tmod 11 < 10 := by rw [Int.tmod_eq_emod_of_nonneg (by omega)]; omega
      have hw6 : IntKind.i64.wrap ((i : Int) + 1) = ((i + 1 : Nat) : Int) := wrap_ok (by omega) (by omega)
      have hw7 : IntKind.i64.wrap ((i : Int).tmod 11) = (i : Int).tmod 11 := by rw [Int.tmod_eq_emod_of_nonneg (by omega)]; exact wrap_ok (by omega) (by omega)
      have hbe := beq_bytes hr2 hb
      have tk2 : List.take b.length (List.map (PV.int .u8) b2) = b2.map U := by rw [← l2]; exact List.take_of_length_le (by simp)
      have i1a : (0 : Int) ≤ (i : Int) + 1 := by omega
      by_cases hb2 : b2 = b
      · rw [if_pos hb2] at hA
        rw [decide_eq_true hb2] at hbe
        have hS := Same_fn r r (by omega)
        rw [decide_eq_true rfl] at hS
        refine fn_introX mixed (X := X6) c6 6 (by simp [X6]) fun Q hR hN => ?_
        simp [X6]
        refine call_of sanity_fn ?_
        simp
        refine call_of hM ?_
        simp [frzRC]
        refine call_of hP ?_
        simp [hw, hw2, hw3, hw5, hw6, hw7, t1, hne, hbn, hil, hil2, i1a, i1b, tk2, frzU, xorI8, hx, hy, m1, m2, c1, l1, l2]
        refine call_of hA ?_
        simp [hbe, l2, tk2, frzRC]
        refine call_of hS ?_
        simp [hbl]
        refine hR _ _ ?_
        simp [X6]
      · rw [if_neg hb2] at hA
        rw [decide_eq_false hb2] at hbe
        have hir : i / 11 ≤ r.length := by omega
        have hll : (r.take (i / 11)).length = i / 11 := by simp; omega
        rw [hll] at hA
        have hS := Same_fn (r.take (i / 11)) (r.take (i / 11)) (by rw [hll]; omega)
        rw [decide_eq_true rfl] at hS
        have hs2 : List.take (i / 11) (List.map RC r) = (r.take (i / 11)).map RC := by rw [List.map_take]
        obtain ⟨m, hm⟩ : ∃ m, m = r.take (i / 11) := ⟨_, rfl⟩
        obtain ⟨j, hj⟩ : ∃ j, j = i / 11 := ⟨_, rfl⟩
        rw [← hm] at hA hS hs2 hll
        rw [← hj] at hA hs2 hir q1 q2 hll
        have hw4 : IntKind.i64.wrap ((j : Int) * 11) = ((11 * j : Nat) : Int) := by rw [wrap_ok (by omega) (by omega)]; omega
        refine fn_introX mixed (X := X6) c6 6 (by simp [X6]) fun Q hR hN => ?_
        simp [X6]
        refine call_of sanity_fn ?_
        simp
        refine call_of hM ?_
        simp [frzRC]
        refine call_of hP ?_
        simp [hw, hw2, hw3, hw5, hw6, hw7, t1, hne, hbn, hil, hil2, i1a, i1b, tk2, frzU, xorI8, hx, hy, m1, m2, c1, l1, l2]
        refine call_of hA ?_
        simp [hbe, l2, tk2, frzRC, q1, q2, hir, hs2, hw4]
        refine call_of hS ?_
        simp [q1, q2, hw4]
        refine hR _ _ ?_
        simp [X6]
    · obtain ⟨A, x, B, e1, e2, e3⟩ := damage1 ho (by omega) hq d
      rw [← hbb] at e1 e3
      have hx : b[i] = x := by
        have : b[i]? = some x := by rw [e1, ← e2]; simp
        rw [List.getElem?_eq_getElem hil] at this; exact Option.some.inj this
      have g1 : b.set i (xb x d) = A ++ xb x d :: B := by rw [e1, ← e2, set_at]
      generalize A ++ xb x d :: B = b2 at e3 g1
      have l2 : b2.length = b.length := by rw [← g1, List.length_set]
      have m1 : List.set (List.map U b) i (U (xb x d)) = b2.map U := by rw [setU, g1]
      have hr2 : ∀ c ∈ b2, 0 ≤ c ∧ c ≤ 255 := fun c hc => by
        rw [← g1] at hc
        rcases List.mem_or_eq_of_mem_set hc with hc | rfl
        · exact hb c hc
        · exact xb_range _ _
      have hA := Read_fn b2 (by omega) hr2
      rw [e3] at hA
      have c1 : b.length ≤ 140737488355328 := by omega
      have q1 := quo11 i (by omega)
      have q2 := quo11' i (by omega)
      have t1 : ¬ (i : Int).tmod 11 < 10 := by rw [Int.tmod_eq_emod_of_nonneg (by omega)]; omega
      have hw7 : IntKind.i64.wrap ((i : Int).tmod 11) = (i : Int).tmod 11 := by rw [Int.tmod_eq_emod_of_nonneg (by omega)]; exact wrap_ok (by omega) (by omega)
      have hbe := beq_bytes hr2 hb
      have tk2 : List.take b.length (List.map (PV.int .u8) b2) = b2.map U := by rw [← l2]; exact List.take_of_length_le (by simp)
      have i1a : (0 : Int) ≤ (i : Int) + 1 := by omega
      by_cases hb2 : b2 = b
      · rw [if_pos hb2] at hA
        rw [decide_eq_true hb2] at hbe
        have hS := Same_fn r r (by omega)
        rw [decide_eq_true rfl] at hS
        refine fn_introX mixed (X := X6) c6 6 (by simp [X6]) fun Q hR hN => ?_
        simp [X6]
        refine call_of sanity_fn ?_
        simp
        refine call_of hM ?_
        simp [frzRC]
        refine call_of hP ?_
        simp [hw, hw2, hw3, hw5, hw7, t1, hne, hbn, hil, tk2, frzU, xorI8, hx, m1, c1, l2]
        refine call_of hA ?_
        simp [hbe, l2, tk2, frzRC]
        refine call_of hS ?_
        simp [hbl]
        refine hR _ _ ?_
        simp [X6]
      · rw [if_neg hb2] at hA
        rw [decide_eq_false hb2] at hbe
        have hir : i / 11 ≤ r.length := by omega
        have hll : (r.take (i / 11)).length = i / 11 := by simp; omega
        rw [hll] at hA
        have hS := Same_fn (r.take (i / 11)) (r.take (i / 11)) (by rw [hll]; omega)
        rw [decide_eq_true rfl] at hS
        have hs2 : List.take (i / 11) (List.map RC r) = (r.take (i / 11)).map RC := by rw [List.map_take]
        obtain ⟨m, hm⟩ : ∃ m, m = r.take (i / 11) := ⟨_, rfl⟩
        obtain ⟨j, hj⟩ : ∃ j, j = i / 11 := ⟨_, rfl⟩
        rw [← hm] at hA hS hs2 hll
        rw [← hj] at hA hs2 hir q1 q2 hll
        have hw4 : IntKind.i64.wrap ((j : Int) * 11) = ((11 * j : Nat) : Int) := by rw [wrap_ok (by omega) (by omega)]; omega
        refine fn_introX mixed (X := X6) c6 6 (by simp [X6]) fun Q hR hN => ?_
        simp [X6]
        refine call_of sanity_fn ?_
        simp
        refine call_of hM ?_
        simp [frzRC]
        refine call_of hP ?_
        simp [hw, hw2, hw3, hw5, hw7, t1, hne, hbn, hil, tk2, frzU, xorI8, hx, m1, c1, l2]
        refine call_of hA ?_
        simp [hbe, l2, tk2, frzRC, q1, q2, hir, hs2, hw4]
        refine call_of hS ?_
        simp [q1, q2, hw4]
        refine hR _ _ ?_
        simp [X6]
end Go.Proofs.Ytkfjnbljegoomaa.J
