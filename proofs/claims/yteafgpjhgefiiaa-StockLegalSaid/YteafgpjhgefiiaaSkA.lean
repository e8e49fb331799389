/-
  Chapter 30: stock.Match; the function that is passed to 'first' reads the caller's variables.
-/
import Derived.Test.YteafgpjhgefiiaaSgA
import Derived.Test.YteafgpjhgefiiaaSjA
namespace Go.Proofs.Yteafgpjhgefiiaa.S
set_option linter.unusedSimpArgs false
set_option linter.unusedVariables false
set_option linter.unusedSectionVars false
open Go.Proofs.Yteafgpjhgefiiaa.Am
set_option maxHeartbeats 2000000
abbrev dd : Row := (0, .dead)
abbrev cw (x : Nat) : List PV := [I 48, I 12, DT (up x), DT (dn x)]
/-- the caller's memory -/
abbrev mh (x n : Nat) (bs : List Bool) (r6 r8 r10 a b : Row) : Heap := [dd, dd, dd, dd, dd, (1, .var (cw x)), r6, (1, .var [.own 9 1 n 1 0 n]), r8, (1, .arr 1 0 false (bs.map .bool)), r10, a, b]
theorem ask_fi (x y n i : Nat) (bs : List Bool) (r6 r8 r10 a b : Row) (hx : x < 6) (hy : y < 6) (hb : bs.length = n) (hi : i < n) (hn : n ≤ 100) :
    FI Try.prog (.fn (.func 25) [] [.ptr 7 1 0, .ptr 5 1 0]) [I i, plC y] (mh x n bs r6 r8 r10 a b) (.bool (!bs[i]?.getD false && decide (y = x))) [(12, (b.1 + 1, .var (cw y)))] := by
  refine fn_introXI mixed (X := X25) c25 (by simp [X25]) (by simp) fun Q hR hN => ?_
  have hib : i < bs.length := by omega
  have hwi : IntKind.i64.wrap (i : Int) = i := wrap_ok (by omega) (by omega)
  have hg : bs[i]?.getD false = bs[i] := by simp [hib]
  rw [hg] at hR hN
  by_cases t : bs[i] = true
  · simp [X25, hib, hi, hb, t, hwi]
    refine hR _ _ ?_
    simp [X25, finI, t]
  · have t' : bs[i] = false := by simpa using t
    simp [X25, hib, hi, hb, t', hwi]
    refine call_of (EqP_fn hy hx) ?_
    simp
    refine hR _ _ ?_
    simp [X25, finI, t']
theorem first_fi (s : List Nat) (u : List Int) (x : Nat) (bs : List Bool) (r6 r8 r10 a b : Row) (hs : Pl s) (hx : x < 6) (hb : bs.length = s.length) (hu : ∀ j, j < s.length → bs[j]?.getD false = decide ((j : Int) ∈ u)) :
    ∃ r ws, (r = I (pick s u x) ∧ ∃ a' b', ws = [(11, a'), (12, b')]) ∧ FI Try.prog (.fn (.func 24) [] []) [PL s, .fn (.func 25) [] [.ptr 7 1 0, .ptr 5 1 0]] (mh x s.length bs r6 r8 r10 a b) r ws := by
  refine fn_introIE mixed (X := X24) c24 (by simp [X24]) (by simp) fun Q hR hN => ?_
  have hl := hs.n
  simp [X24]
  refine loopR (fun (k : Nat) vs h => k ≤ s.length ∧ pick s u x = pickG u x k (s.drop k) ∧ (∃ y z t t', vs = [PL s, .fn (.func 25) [] [.ptr 7 1 0, .ptr 5 1 0], I 0, y, z, PL s, I s.length, I k, t, t']) ∧ ∃ a' b', h = mh x s.length bs r6 r8 r10 a' b') (fun k => s.length - k) 0 ?_ ?_
  · simp [pick]
  · rintro k vs h ⟨h1, h2, ⟨y, z, t, t', rfl⟩, ⟨g1, o1⟩, ⟨g2, o2⟩, rfl⟩ Q' hK hX hR'
    by_cases hk : k < s.length
    · have hw : IntKind.i64.wrap ((k : Int) + 1) = ((k + 1 : Nat) : Int) := wrap_ok (by omega) (by omega)
      have hg := hu k hk
      rw [List.drop_eq_getElem_cons hk, pickG] at h2
      simp [hk]
      refine callv_of (ask_fi x s[k] s.length k bs r6 r8 r10 _ _ hx (hs.k _ (List.getElem_mem hk)) hb hk hl) ?_
      rw [hg]
      by_cases t1 : (k : Int) ∉ u ∧ s[k] = x
      · rw [if_pos t1] at h2
        simp [t1]
        refine hR' _ _ ?_
        simp
        refine hR _ [(11, (g1 + 1, .var (cw s[k]))), (12, (g2 + 1, .var (cw s[k])))] _ _ ⟨by rw [h2], _, _, rfl⟩ ?_
        simp [X24, finI, t1]
      · rw [if_neg t1] at h2
        have t2 : (!decide ((k : Int) ∈ u) && decide (s[k] = x)) = false := by
          rw [← Bool.not_eq_true]; simpa using t1
        simp [t2, hw]
        refine hK (k + 1) _ _ (by omega) ?_
        simp
        exact ⟨by omega, h2⟩
    · rw [List.drop_eq_nil_of_le (by omega), pickG] at h2
      simp [hk]
      refine hX _ _ _ ?_
      simp
      refine hR _ [(11, (g1, o1)), (12, (g2, o2))] _ _ ⟨by rw [h2], _, _, rfl⟩ ?_
      simp [X24, finI]
theorem setI {g : List Int} {k : Nat} {p : Int} : (if ∀ x, x ∈ (List.map I g).set k (PV.int .i64 p) → noRefE x = true then Ob.arr 1 0 false ((List.map I g).set k (PV.int .i64 p)) else Ob.dead) = Ob.arr 1 0 false (List.map I (g.set k p)) := by
  have e : (List.map I g).set k (PV.int .i64 p) = List.map I (g.set k p) := List.map_set.symm
  rw [e, if_pos fun x hx => by obtain ⟨y, _, rfl⟩ := List.mem_map.1 hx; rfl]
theorem Match_fn (s w : List Nat) (hs : Pl s) (hw : Pl w) : Am.Fn Try.prog 12 [1, 0] [PL s, PL w] (.agg [.uslc ((froms s w).map I), I (miss (froms s w))]) := by
  refine fn_introX mixed (X := X12) c12 13 (by simp [X12]) fun Q hR hN => ?_
  have hl := hs.n
  have hlw := hw.n
  have hc1 : (s.length : Int) ≤ 140737488355328 := by omega
  have hc2 : (s.length : Int) ≤ 9223372036854775807 := by omega
  have hc3 : (w.length : Int) * 8 ≤ 140737488355328 := by omega
  have hc4 : (w.length : Int) ≤ 9223372036854775807 := by omega
  simp [X12, hc1, hc2, hc3, hc4]
  refine loopX (fun (k : Nat) vs h => k ≤ w.length ∧ ∃ (bs : List Bool) (o g : List Int), o = froms s (w.take k) ∧ g.take k = o ∧ g.length = w.length ∧ bs.length = s.length ∧ (∀ j, j < s.length → bs[j]?.getD false = decide ((j : Int) ∈ o)) ∧
    vs = [PL s, .undef, .ptr 6 1 0, .ptr 7 1 0, .ptr 8 1 0, .undef, .undef, .undef, PL w, I w.length, I k, .undef, .undef] ∧
    h = [dd, dd, dd, dd, dd, dd, (1, .var [.nils, I 0]), (1, .var [.own 9 1 s.length 1 0 s.length]), (1, .var [.own 10 1 w.length 1 0 w.length, I (miss o)]), (1, .arr 1 0 false (bs.map .bool)), (1, .arr 1 0 false (g.map I)), dd, dd]) (fun k => w.length - k) 0 ?_ ?_
  · simp
    refine ⟨rfl, List.replicate s.length false, List.replicate w.length 0, by simp, by simp, fun j hj => ?_, rfl, by simp, by simp⟩
    simp [froms, fromG, List.getElem?_replicate, hj]
  · rintro k vs h ⟨h1, bs, o, g, h2, hg1, hg2, h4, h5, rfl, rfl⟩ Q' hK hX hR'
    have hol : o.length = k := by rw [h2, froms_len]; simp; omega
    have hmo := miss_le o
    by_cases hk : k < w.length
    · have hwk : IntKind.i64.wrap ((k : Int) + 1) = ((k + 1 : Nat) : Int) := wrap_ok (by omega) (by omega)
      have hwm : IntKind.i64.wrap ((miss o : Int) + 1) = (miss o : Int) + 1 := wrap_ok (by omega) (by omega)
      have hwk0 : IntKind.i64.wrap (k : Int) = k := wrap_ok (by omega) (by omega)
      have hx := hw.k _ (List.getElem_mem hk)
      have e : froms s (w.take (k + 1)) = o ++ [pick s o w[k]] := by
        rw [List.take_succ_eq_append_getElem hk, froms_snoc, h2]
      obtain ⟨r, ws, ⟨rfl, a', b', rfl⟩, hf⟩ := first_fi s o w[k] bs (1, .var [.nils, I 0]) (1, .var [.own 10 1 w.length 1 0 w.length, I (miss o)]) (1, .arr 1 0 false (g.map I)) dd dd hs hx h4 h5
      have hpg := pickG_range (u := o) (x := w[k]) (s := s) (i := 0)
      have hpl := pickG_ge o w[k] s 0
      have hpe : pickG o w[k] 0 s = pick s o w[k] := rfl
      rw [hpe] at hpg hpl
      simp only [Nat.zero_add, Int.natCast_zero, Int.zero_add] at hpg hpl
      generalize pick s o w[k] = p at e hf hpg hpl
      have hgk : k < g.length := by omega
      have hgs : (g.set k p).take (k + 1) = o ++ [p] := by
        rw [List.take_succ_eq_append_getElem (by simp; omega), List.take_set_of_le (by omega), hg1]; simp
      simp [hk]
      refine callv_of hf ?_
      by_cases hp : p < 0
      · have hme : miss (o ++ [p]) = miss o + 1 := by simp [miss, List.countP_append, hp]
        simp [hk, hwk, hwm, hwk0, hg2, hgk, hp]
        refine hK (k + 1) _ _ (by omega) ?_
        simp [hg2, h4, e]
        refine ⟨by omega, bs, g.set k p, hgs, by simp [hg2], h4, fun j hj => ?_, by rw [hme]; simp, rfl, ?_⟩
        · rw [h5 j hj]
          have : (j : Int) ≠ p := by omega
          simp [this]
        · exact setI
      · obtain ⟨q, rfl⟩ : ∃ q : Nat, p = q := ⟨p.toNat, by omega⟩
        have hq : q < s.length := by omega
        have hwq : IntKind.i64.wrap (q : Int) = q := wrap_ok (by omega) (by omega)
        have hme : miss (o ++ [(q : Int)]) = miss o := by simp [miss, List.countP_append]
        simp [hk, hwk, hwk0, hg2, hgk, h4, hq, hwq]
        refine hK (k + 1) _ _ (by omega) ?_
        simp [hg2, h4, e]
        refine ⟨by omega, bs.set q true, g.set k q, hgs, by simp [hg2], by simp [h4], fun j hj => ?_, by rw [hme], ?_, ?_⟩
        · by_cases ej : j = q
          · subst ej; simp [List.getElem?_set, h4, hj]
          · rw [List.getElem?_set_ne (Ne.symm ej), h5 j hj]
            have : (j : Int) ≠ q := by omega
            simp [this, ej]
        · rw [← List.map_set]; simp
        · exact setI
    · obtain rfl : k = w.length := by omega
      rw [List.take_of_length_le (by omega)] at hg1
      rw [List.take_length] at h2
      simp
      refine hX _ _ _ ?_
      simp
      refine hR _ _ ?_
      rw [hg1] at hg2
      simp [X12, hg2, hg1, ← h2]
end Go.Proofs.Yteafgpjhgefiiaa.S
