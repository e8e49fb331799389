/-
  Chapter 27: a sheet is made.
-/
import Derived.Test.YtgdcogoacnghkaaQNzA
import Derived.Test.YtgdcogoacnghkaaQOaP
import Derived.Test.YtgdcogoacnghkaaQNlA
import Derived.Test.YtgdcogoacnghkaaQNnA
namespace Go.Proofs.Ytgdcogoacnghkaa.N
set_option linter.unusedSimpArgs false
set_option linter.unusedVariables false
set_option linter.unusedSectionVars false
open Go.Proofs.Ytgdcogoacnghkaa.Am
set_option maxHeartbeats 4000000
theorem apply_none : applyO 48 12 [] = ⟨48, 12, blankD 48 12, blankD 48 12, 0, 0⟩ := by kernel_rfl
theorem spent_nil : spent [] = List.replicate 96 false := by decide +kernel
theorem spent_out {w : List Int} {n : Int} (h : ¬ (0 ≤ n ∧ n < 96)) : spent (w ++ [n]) = spent w := by
  unfold spent
  refine List.map_congr_left fun i hi => ?_
  have := List.mem_range.1 hi
  have h2 : ¬ (i : Int) = n := by omega
  simp [h2]
structure Plan48 (P : List Stk) : Prop where
  len : P.length ≤ 1200
  ok : ∀ s ∈ P, Stk48 s
theorem Make_fn (u d : List (List Bool)) (n : Nat) (worn : List Int) (l : List Tr) (P : List Stk) (m : Mad u d) (hn : 1 ≤ n) (hn2 : n ≤ 64) (hP : P = planG 48 n 0 u d) (hP2 : Plan48 P) (hw : worn.length ≤ 10) (hl : l.length ≤ 10) :
    Am.Fn Try.prog 14 [0, 0, 1, 1, 0, 0, 1, 0] [PC 48 12 u d, I n, IL worn, TRS l] (.tup [OU (outG (makeG u d n worn l)), I 0]) := by
  have hPl := Plan_fn 48 12 n u d m.valid hn hn2
  have hAp := Apply_fn 48 12 [] ⟨by simp, by simp⟩
  have hCl := Clone_fn worn (by omega)
  rw [apply_none] at hAp
  rw [← hP] at hPl
  have lB := blank_len 48 12
  have wB := wid_blank 48 12
  obtain ⟨R, hRR⟩ : ∃ R, makeG u d n worn l = R := ⟨_, rfl⟩
  rw [hRR]
  unfold makeG startG at hRR
  rw [← hP] at hRR
  have e96 : IntKind.i64.wrap 96 = 96 := wrap_ok (by omega) (by omega)
  obtain ⟨B, hB⟩ : ∃ B, blankD 48 12 = B := ⟨_, rfl⟩
  rw [hB] at hAp hRR lB wB
  clear hB
  refine fn_introX mixed (X := X14) c14 28 (by simp [X14]) fun Q hR hN => ?_
  simp [X14]
  refine call_of hPl ?_
  simp
  refine call_of hAp ?_
  simp [e96]
  refine call_of hCl ?_
  simp [lB]
  have hs0 : (spent []).map PV.bool = List.replicate 96 (PV.bool false) := by rw [spent_nil, List.map_replicate]
  have tr0 : ∀ a w, spent (w ++ [a]) = spent w ∨ (0 ≤ a ∧ a < 96) := fun a w => by
    by_cases h : 0 ≤ a ∧ a < 96
    · exact .inr h
    · exact .inl (spent_out h)
  refine loopX (fun (k : Nat) vs h => k ≤ worn.length ∧ vs = [.undef, .undef, .undef, TRS l, .undef, .ptr 15 1 0, .undef, .own 16 1 P.length 3 0 P.length, .undef, .undef, .ptr 17 1 0, .undef, .undef, .undef, .undef, .undef, .undef, .undef, IL worn, I worn.length, I k, .undef, .undef, .undef, .undef, .undef, .undef, .undef, .undef, .undef, .undef, .undef] ∧
    h = [dd, dd, dd, dd, dd, dd, dd, dd, dd, dd, dd, dd, dd, dd, dd, (1, .var [I 0, I 0, .nils, .nils, I 0, .bool false, .nils]), (1, .arr 3 0 false (P.map stC)), (1, .var [I 48, I 12, .own 18 1 12 1 0 12, .own 19 1 12 1 0 12, I 0, .bool false, .own 20 1 worn.length 1 0 worn.length, I 0, .own 21 1 96 1 0 96, .bool false]), dRow B, dRow B, wRow worn, sRow27 (worn.take k), dd, dd, dd, dd, dd, dd]) (fun k => worn.length - k) 0 ?_ ?_
  · simp [hs0]
  · rintro k vs h ⟨h1, rfl, rfl⟩ Q' hK hX hR'
    by_cases hk : k < worn.length
    · have hw1 : IntKind.i64.wrap ((k : Int) + 1) = ((k + 1 : Nat) : Int) := wrap_ok (by omega) (by omega)
      by_cases t1 : 0 ≤ worn[k]
      · by_cases t2 : worn[k] < 96
        · obtain ⟨i, hi⟩ : ∃ i : Nat, worn[k] = i := ⟨worn[k].toNat, by omega⟩
          have hi2 : i < 96 := by omega
          have hi3 : (i : Int) < 96 := by omega
          have e := spent_set (w := worn.take k) hi2
          rw [← hi, ← take_snoc hk] at e
          have e' : (List.map PV.bool (spent (worn.take k))).set i (.bool true) = (spent (worn.take (k + 1))).map .bool := by rw [← e, List.map_set]
          simp [hk, hi, hi2, hi3, hw1]
          rw [e']
          refine hK (k + 1) _ _ (by omega) ?_
          simp
          omega
        · have e := spent_out (w := worn.take k) (n := worn[k]) (by omega)
          rw [← take_snoc hk] at e
          simp [hk, t1, t2, hw1]
          refine hK (k + 1) _ _ (by omega) ?_
          simp [e]
          omega
      · have e := spent_out (w := worn.take k) (n := worn[k]) (by omega)
        rw [← take_snoc hk] at e
        simp [hk, t1, hw1]
        refine hK (k + 1) _ _ (by omega) ?_
        simp [e]
        omega
    · obtain rfl : k = worn.length := by omega
      simp
      refine hX _ _ _ ?_
      simp
      clear hK hX hR'
      refine loopX (fun (p : Nat × List Int) vs h => p.1 ≤ l.length ∧ Grp (l.take p.1) p.2 ∧ vs = [.undef, .undef, .undef, .undef, .undef, .ptr 15 1 0, .undef, .own 16 1 P.length 3 0 P.length, .undef, .undef, .ptr 17 1 0, .undef, .mapv 18 1, .undef, .undef, .undef, .undef, .undef, .undef, .undef, .undef, .undef, .undef, TRS l, I l.length, I p.1, .undef, .undef, .undef, .undef, .undef, .undef] ∧
        h = [dd, dd, dd, dd, dd, dd, dd, dd, dd, dd, dd, dd, dd, dd, dd, (1, .var [I 0, I 0, .nils, .nils, I 0, .bool false, .nils]), (1, .arr 3 0 false (P.map stC)), eRow 0 0 worn false, (1, .mp false (p.2.map I) (vals (l.take p.1) p.2)), dRow B, dRow B, wRow worn, sRow27 worn, dd, dd, dd, dd, dd]) (fun p => l.length - p.1) (0, []) ?_ ?_
      · simp [Grp.nil, vals_nil]
      · rintro ⟨k, K⟩ vs h ⟨h1, h2, rfl, rfl⟩ Q' hK hX hR'
        dsimp only at h1 h2
        have va := vals_all (l.take k) K
        have vl := vals_len (l.take k) K
        by_cases hk : k < l.length
        · have hw1 : IntKind.i64.wrap ((k : Int) + 1) = ((k + 1 : Nat) : Int) := wrap_ok (by omega) (by omega)
          by_cases hx : l[k].pl ∈ K
          · obtain ⟨i, hi⟩ := List.mem_iff_getElem?.1 hx
            have hf : mfind (I l[k].pl) (K.map I) 0 = some (some i) := by have := mfind_some (n := 0) h2.nodup hi; rw [Nat.zero_add] at this; exact this
            have hg := vals_get (l := l.take k) hi
            have hp := at_pos h2 hx
            have hs := vals_set (t := l[k]) h2 hi
            rw [← take_snoc hk] at hs
            have h3 := h2.same hx
            rw [← take_snoc hk] at h3
            have hln := at_len (l.take k) l[k].pl
            rw [List.length_take] at hln
            have hc : ((at' (l.take k) l[k].pl).length + 1) * 24 ≤ 140737488355328 := by omega
            simp [hk, hw1, hf, hg, hp, hc]
            rw [hs]
            refine hK (k + 1, K) _ _ (by dsimp only; omega) ?_
            simp [h3]
            omega
          · have hf : mfind (I l[k].pl) (K.map I) 0 = some none := mfind_none hx
            have hs := vals_push (t := l[k]) h2 hx
            rw [← take_snoc hk] at hs
            have h3 := h2.push hx
            rw [← take_snoc hk] at h3
            simp [hk, hw1, hf]
            rw [hs]
            refine hK (k + 1, K ++ [l[k].pl]) _ _ (by dsimp only; omega) ?_
            simp [h3]
            omega
        · obtain rfl : k = l.length := by omega
          rw [List.take_length] at h2
          simp
          refine hX _ _ _ ?_
          simp
          clear hK hX hR' va vl
          refine loopX (fun (p : Nat × Em) vs h => p.1 ≤ P.length ∧ runG l p.1 (P.drop p.1) p.2 = R ∧ p.2.stopped = false ∧ p.2.strikes ≤ p.1 ∧ p.2.slip ≤ 10 * p.1 ∧ p.2.worn.length ≤ 10 + 10 * p.1 ∧ (p.2.u.length = 12 ∧ p.2.d.length = 12 ∧ Wid 48 p.2.u ∧ Wid 48 p.2.d) ∧
            vs = [.undef, .undef, .undef, .undef, .undef, .ptr 15 1 0, .undef, .undef, .undef, .undef, .ptr 16 1 0, .undef, .mapv 17 1, .undef, .undef, .undef, .undef, .undef, .undef, .undef, .undef, .undef, .undef, .undef, .undef, .undef, .undef, .own 18 1 P.length 3 0 P.length, I P.length, I p.1, .undef, .undef] ∧
            h = [dd, dd, dd, dd, dd, dd, dd, dd, dd, dd, dd, dd, dd, dd, dd, (1, .var [I 0, I 0, .nils, .nils, I 0, .bool false, .nils]), eRow p.2.strikes p.2.slip p.2.worn false, (1, .mp true (K.map I) (fvals l K)), (1, .arr 3 0 false (P.map stC)), dRow p.2.u, dRow p.2.d, wRow p.2.worn, sRow27 p.2.worn, dd, dd, dd, dd, dd]) (fun p => P.length - p.1) (0, ⟨B, B, 0, 0, worn, false⟩) ?_ ?_
          · simp [hRR, lB, wB]
            omega
          · rintro ⟨i, ⟨u1, d1, n1, a1, w1, b1⟩⟩ vs h ⟨g1, g2, g3, g4, g5, g6, ⟨lu1, ld1, wu1, wd1⟩, rfl, rfl⟩ Q' hK hX hR'
            dsimp only at g1 g2 g3 g4 g5 g6 lu1 ld1 wu1 wd1
            subst g3
            have hPl2 := hP2.len
            by_cases hi : i < P.length
            · have hw1 : IntKind.i64.wrap ((i : Int) + 1) = ((i + 1 : Nat) : Int) := wrap_ok (by omega) (by omega)
              have hSk := hP2.ok _ (List.getElem_mem hi)
              have htl := at_len l (i : Int)
              rw [at_trAt] at htl
              have hsl := suf_len (trAt l i) a1 w1
              rw [List.drop_eq_getElem_cons hi, runG] at g2
              by_cases hx : (i : Int) ∈ K
              · obtain ⟨q, hq⟩ := List.mem_iff_getElem?.1 hx
                have hf : mfind (I i) (K.map I) 0 = some (some q) := by have := mfind_some (n := 0) h2.nodup hq; rw [Nat.zero_add] at this; exact this
                have hg := fvals_get (l := l) hq
                rw [at_trAt] at hg
                obtain ⟨⟨b2, a2, w2⟩, hRes⟩ : ∃ Res, suf (trAt l i) a1 w1 = Res := ⟨_, rfl⟩
                obtain ⟨x, y, z, hF⟩ := suffer_fi dd dd dd dd dd dd dd dd dd dd dd dd dd dd (1, .var [I P[i].row, IL P[i].up, IL P[i].down]) (1, .var [I 0, I 0, .nils, .nils, I 0, .bool false, .nils]) (1, .mp true (K.map I) (fvals l K)) (1, .arr 3 0 false (P.map stC)) (dRow u1) (dRow d1) dd dd dd dd dd n1 a1 w1 (trAt l i) (by omega) (by omega) (b2, a2, w2) hRes
                dsimp only at hF
                simp only [sufG, hRes] at g2
                rw [hRes] at hsl
                dsimp only at hsl
                simp [hi, hf, hg]
                refine callv_of hF ?_
                cases b2 with
                | true =>
                  simp only [if_true] at g2
                  subst g2
                  simp
                  refine hX _ _ _ ?_
                  simp
                  refine hR _ _ ?_
                  simp [X14, outG, lu1, ld1]
                | false =>
                  simp only [Bool.false_eq_true, if_false] at g2
                  obtain ⟨x', hS⟩ := strike_fi dd dd dd dd dd dd dd dd dd dd dd dd dd dd (1, .var [I P[i].row, IL P[i].up, IL P[i].down]) (1, .var [I 0, I 0, .nils, .nils, I 0, .bool false, .nils]) (1, .mp true (K.map I) (fvals l K)) (1, .arr 3 0 false (P.map stC)) dd x dd y z n1 a2 w2 u1 d1 P[i] (by omega) (by omega) hSk lu1 ld1 wu1 wd1
                  simp
                  refine callv_of hS ?_
                  simp [hw1]
                  refine hK (i + 1, strikeG ⟨u1, d1, n1, a2, w2, false⟩ P[i]) _ _ (by dsimp only; omega) ?_
                  have c1 : (strikeG ⟨u1, d1, n1, a2, w2, false⟩ P[i]).u.length = 12 := by simp [strikeG, hitR_len, lu1]
                  have c2 : (strikeG ⟨u1, d1, n1, a2, w2, false⟩ P[i]).d.length = 12 := by simp [strikeG, hitR_len, ld1]
                  have c3 : Wid 48 (strikeG ⟨u1, d1, n1, a2, w2, false⟩ P[i]).u := hitR_wid wu1
                  have c4 : Wid 48 (strikeG ⟨u1, d1, n1, a2, w2, false⟩ P[i]).d := hitR_wid wd1
                  simp only [g2, c1, c2, c3, c4]
                  simp [strikeG]
                  omega
              · have hf : mfind (I i) (K.map I) 0 = some none := mfind_none hx
                have hnil := at_nil h2 hx
                rw [at_trAt] at hnil
                rw [hnil] at g2
                simp only [sufG, suf] at g2
                simp only [Bool.false_eq_true, if_false] at g2
                obtain ⟨x', hS⟩ := strike_fi dd dd dd dd dd dd dd dd dd dd dd dd dd dd (1, .var [I P[i].row, IL P[i].up, IL P[i].down]) (1, .var [I 0, I 0, .nils, .nils, I 0, .bool false, .nils]) (1, .mp true (K.map I) (fvals l K)) (1, .arr 3 0 false (P.map stC)) dd dd dd dd dd n1 a1 w1 u1 d1 P[i] (by omega) (by omega) hSk lu1 ld1 wu1 wd1
                simp [hi, hf]
                refine callv_of (suffer_nil_fi _ _ _ _ _ _ _ _ _ _ _ _ _ _ _ _ _ _ _ _ _ _ _ _ _ n1 a1 w1) ?_
                simp
                refine callv_of hS ?_
                simp [hw1]
                refine hK (i + 1, strikeG ⟨u1, d1, n1, a1, w1, false⟩ P[i]) _ _ (by dsimp only; omega) ?_
                have c1 : (strikeG ⟨u1, d1, n1, a1, w1, false⟩ P[i]).u.length = 12 := by simp [strikeG, hitR_len, lu1]
                have c2 : (strikeG ⟨u1, d1, n1, a1, w1, false⟩ P[i]).d.length = 12 := by simp [strikeG, hitR_len, ld1]
                have c3 : Wid 48 (strikeG ⟨u1, d1, n1, a1, w1, false⟩ P[i]).u := hitR_wid wu1
                have c4 : Wid 48 (strikeG ⟨u1, d1, n1, a1, w1, false⟩ P[i]).d := hitR_wid wd1
                simp only [g2, c1, c2, c3, c4]
                simp [strikeG]
                omega
            · obtain rfl : i = P.length := by omega
              rw [List.drop_eq_nil_of_le (by omega), runG] at g2
              subst g2
              simp
              refine hX _ _ _ ?_
              simp
              refine hR _ _ ?_
              simp [X14, outG, lu1, ld1]
theorem Make_err (w h n : Int) (u d : List (List Bool)) (worn : List Int) (l : List Tr) (hn : n < 1 ∨ 64 < n) : Am.Fn Try.prog 14 [0, 0, 1, 1, 0, 0, 1, 0] [PC w h u d, I n, IL worn, TRS l] (.tup [.agg [I 0, I 0, .nils, .nils, I 0, .bool false, .nils], I 1]) := by
  refine fn_introX mixed (X := X14) c14 28 (by simp [X14]) fun Q hR hN => ?_
  simp [X14]
  refine call_of (Plan_arg w h n u d hn) ?_
  simp
  refine hR _ _ ?_
  simp [X14]
end Go.Proofs.Ytgdcogoacnghkaa.N
