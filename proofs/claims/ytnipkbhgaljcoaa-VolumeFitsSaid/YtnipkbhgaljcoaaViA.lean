/-
  Chapter 23: VolumeDivides.
-/
import Derived.Test.YtnipkbhgaljcoaaVhX
namespace Go.Proofs.Ytnipkbhgaljcoaa.V
set_option linter.unusedSimpArgs false
set_option linter.unusedVariables false
set_option linter.unusedSectionVars false
open Go.Proofs.Ytnipkbhgaljcoaa.Am
theorem fitG_iff (c : List (List Int)) (b : List Bool) (m : Int) (n : Nat) : ∀ (E : List Int) (f : Nat), f ≤ n → (fitG c b m n f E = true ↔ chain (oks c b m n) n f E ∧ (f = 0 ∨ f = n ∨ b.getD f false = true))
  | [], f, hf => by
    simp only [fitG, chain, decide_eq_true_eq]
    exact ⟨fun h => ⟨h, .inr (.inl h)⟩, fun h => h.1⟩
  | e :: r, f, hf => by
    simp only [fitG, chain, okv, oks, may, Bool.and_eq_true, decide_eq_true_eq, Bool.or_eq_true, beq_iff_eq]
    constructor
    · rintro ⟨⟨⟨h1, h2⟩, ⟨h3, h4⟩, h5⟩, h6⟩
      have ih := (fitG_iff c b m n r e.toNat (by omega)).1 h6
      refine ⟨⟨h1, h2, ⟨⟨h3, h4⟩, ?_⟩, ih.1⟩, h5.elim .inl fun h => .inr (.inr h)⟩
      rcases ih.2 with h | h | h
      · omega
      · exact .inl h
      · exact .inr h
    · rintro ⟨⟨h1, h2, ⟨⟨h3, h4⟩, h5⟩, h6⟩, h7⟩
      refine ⟨⟨⟨h1, h2⟩, ⟨h3, h4⟩, ?_⟩, (fitG_iff c b m n r e.toNat (by omega)).2 ⟨h6, h5.elim (fun h => .inr (.inl h)) fun h => .inr (.inr h)⟩⟩
      rcases h7 with h | h | h
      · exact .inl h
      · omega
      · exact .inr h
theorem fits_iff {c : List (List Int)} {b : List Bool} {m : Int} {E : List Int} (hs : shp c b.length = true) : fits c b m E = true ↔ chain (oks c b m b.length) b.length 0 E := by
  simp only [fits, hs, Bool.true_and, fitG_iff c b m b.length E 0 (Nat.zero_le _)]
  exact ⟨fun h => h.1, fun h => ⟨h, .inl trivial⟩⟩
theorem take_ml {α : Type} (f : α → PV) (l : List α) : List.take l.length (List.map f l) = List.map f l := List.take_of_length_le (by simp)
theorem frzUL : frzE ∘ UL = L := by funext x; simp [frzE, frzC, Function.comp]
abbrev RawP (lv : List Int) (bg : List Bool) (an : List Int) (mo : Int) : PV := .agg [LK .u8 lv, BL bg, LK .i8 an, .int .u8 mo]
set_option maxHeartbeats 1000000 in
theorem Divides_fn (lv : List Int) (bg : List Bool) (an : List Int) (mo bits : Int) (hl : lv.length ≤ maxLen) (hbg : bg.length ≤ maxLen) (ha : an.length ≤ maxLen) (hmo : 0 ≤ mo ∧ mo ≤ 255) :
    Am.Fn Try.prog 4 [0] [RawP lv bg an mo, .int .u16 bits] (.bool true) := by
  obtain ⟨c, b, m, ⟨hs, hb9, hm1, hm6⟩, hM⟩ := Made_fn lv bg an mo hl hbg ha hmo
  obtain ⟨n, hn⟩ : ∃ n, b.length = n := ⟨_, rfl⟩
  have hcl : c.length = n := by rw [(shp_iff.1 hs).1, hn]
  have hcm : c.length ≤ maxLen := by unfold maxLen; omega
  have hbm : b.length < maxLen := by unfold maxLen; omega
  have hSp := Split_fn c b m hcm (by omega) hm1
  rw [splitP, if_pos hs, splitR] at hSp
  obtain ⟨ok, hok⟩ : ∃ ok, oks c b m b.length = ok := ⟨_, rfl⟩
  have hfi : ∀ E, fits c b m E = true ↔ chain ok n 0 E := fun E => by rw [fits_iff hs, hok, hn]
  rw [hok, hn] at hSp
  have w1 : ∀ i : Nat, i ≤ n → IntKind.i64.wrap ((i : Int) + 1) = (i : Int) + 1 := fun i hi => wrap_ok (by omega) (by omega)
  refine fn_introX mixed (X := X4) c4 12 (by simp [X4]) fun Q hR hN => ?_
  simp [X4, r_nil]
  refine call_of sanity_fn ?_
  simp [callOk, r_nil, storeP]
  refine call_of hM ?_
  have tkL : List.take n (List.map L c) = List.map L c := List.take_of_length_le (by simp [hcl])
  have tkb : List.take n (List.map PV.bool b) = List.map PV.bool b := List.take_of_length_le (by simp [hn])
  have frzB : frzE ∘ PV.bool = PV.bool := rfl
  simp [callOk, r_nil, storeP, hcl, hn]
  refine loopX (fun (i : Nat) vs h => 1 ≤ i ∧ i ≤ n + 1 ∧ ∃ E : List Int, E.length + 1 ≤ i ∧
    vs = [.undef, .int .u16 bits, .undef, .undef, .bool true, .ptr 8 1 0, .own 9 1 E.length 1 0 E.length, I n, I i, .undef, .undef, .undef, .undef, .undef, .undef, .undef, .undef, .undef, .undef, .undef] ∧
    h = List.replicate 8 (0, .dead) ++ [(1, .var [.own 10 1 n 1 0 n, .own 11 1 n 1 0 n, I m]), (1, .arr 1 0 false (E.map I)), (1, .arr 1 0 false (c.map UL)), (1, .arr 1 0 false (b.map .bool))]) (fun i => n + 1 - i) 1 ?_ ?_
  · simp [settled, settled, storeP]
  · rintro i vs h ⟨h1, h2, E, h3, rfl, rfl⟩ Q hK hX hR'
    by_cases hi : i ≤ n
    · have b1 : (E.length + 1) * 8 ≤ 140737488355328 := by omega
      by_cases he : i = n
      · subst he
        simp [r_nil, storeP, hi, b1, w1 i hi]
        refine hK (i + 1) _ _ (by omega) ?_
        simp [settled, settled, storeP]
        exact ⟨E ++ [(i : Int)], by simp; omega, by simp, by simp⟩
      · simp [r_nil, storeP, hi, he, b1, w1 i hi]
        refine cond_of rfl (fun _ => ?_) (fun _ => ?_)
        · simp [r_nil, storeP, hi, he, b1, w1 i hi]
          refine hK (i + 1) _ _ (by omega) ?_
          simp [settled, settled, storeP]
          exact ⟨by omega, E ++ [(i : Int)], by simp; omega, by simp, by simp⟩
        · simp [r_nil, storeP, hi, he, b1, w1 i hi]
          refine hK (i + 1) _ _ (by omega) ?_
          simp [settled, settled, storeP]
          exact ⟨by omega, E, by omega, rfl, rfl⟩
    · simp [r_nil, storeP, hi]
      refine hX _ _ _ ?_
      clear hK hX hR'
      simp [callOk, r_nil, storeP, take_ml, tkL, tkb, frzUL, hcl, hn]
      refine call_of hSp ?_
      have hfE := Fits_fn c b m E hcm hbm (by unfold maxLen; omega)
      have hopt := chain_opt ok n E 0 n (by omega) (Nat.zero_le _)
      by_cases h0 : (ent ok n 0).1 < 0
      · rw [if_pos h0]
        have hf : fits c b m E = false := by
          cases hh : fits c b m E
          · rfl
          · have := (hopt ((hfi E).1 hh)).1; omega
        rw [hf] at hfE
        simp [callOk, r_nil, storeP, take_ml, tkL, tkb, frzUL, hcl, hn]
        refine call_of hfE ?_
        simp [callOk, r_nil, storeP]
        refine hR _ _ ?_
        simp [X4, fin]
      · rw [if_neg h0]
        obtain ⟨hc1, hc2⟩ := path_chain ok n n 0 (by omega) (Nat.zero_le _) (by omega)
        obtain ⟨A, hA⟩ : ∃ A, path ok n n 0 = A := ⟨_, rfl⟩
        rw [hA] at hc1 hc2 hopt ⊢
        have hAn : A.length ≤ n := by have := (ent_le ok n n 0 rfl (Nat.zero_le _)).2; omega
        have hfA := Fits_fn c b m A hcm hbm (by unfold maxLen; omega)
        have hpA := fitsP_fn c b m A hcm hbm (by unfold maxLen; omega)
        have hfa : fits c b m A = true := (hfi A).2 hc1
        rw [hfa] at hfA hpA
        simp [callOk, r_nil, storeP, take_ml, tkL, tkb, frzUL, hcl, hn]
        refine call_of hfA ?_
        simp [callOk, r_nil, storeP, take_ml, tkL, tkb, frzUL, hcl, hn]
        refine call_of hpA ?_
        simp [callOk, r_nil, storeP, take_ml, tkL, tkb, frzUL, hcl, hn]
        refine call_of hfE ?_
        cases hfe : fits c b m E with
        | false =>
          simp [callOk, r_nil, storeP]
          refine hR _ _ ?_
          simp [X4, fin]
        | true =>
          obtain ⟨o1, o2, o3⟩ := hopt ((hfi E).1 hfe)
          rw [← hc2] at o2 o3
          by_cases hlen : A.length = E.length
          · have o4 := o3 (by omega)
            simp [callOk, r_nil, storeP, hlen]
            refine loopX (fun (k : Nat) vs h => k ≤ A.length ∧ lexGe (A.drop k) (E.drop k) ∧
              vs = [.undef, .undef, .undef, .undef, .bool true, .undef, .own 8 1 E.length 1 0 E.length, .undef, .undef, .own 9 1 A.length 1 0 A.length, .undef, I k, .undef, .undef, .undef, .undef, .undef, .undef, .undef, .undef] ∧
              h = List.replicate 8 (0, .dead) ++ [(1, .arr 1 0 false (E.map I)), (1, .arr 1 0 false (A.map I)), (0, .dead), (0, .dead)]) (fun k => A.length - k) 0 ?_ ?_
            · simp [settled, settled, storeP, hlen, o4]
            · rintro k vs h ⟨k1, k2, rfl, rfl⟩ Q hK hX hR'
              by_cases hk : k < A.length
              · have hk' : k < E.length := by omega
                have hw : IntKind.i64.wrap ((k : Int) + 1) = (k : Int) + 1 := wrap_ok (by omega) (by omega)
                rw [List.drop_eq_getElem_cons hk, List.drop_eq_getElem_cons hk', lexGe] at k2
                by_cases hx : A[k] = E[k]
                · simp [r_nil, storeP, hk, hk', hx, hw]
                  refine hK (k + 1) _ _ (by omega) ?_
                  simp [settled, settled, storeP]
                  refine ⟨by omega, ?_⟩
                  rcases k2 with h | h
                  · omega
                  · exact h.2
                · have hg : E[k] < A[k] := by
                    rcases k2 with h | h
                    · exact h
                    · exact absurd h.1 hx
                  simp [r_nil, storeP, hk, hk', hx, hg]
                  refine hR' _ _ ?_
                  simp [r_nil, storeP]
                  refine hR _ _ ?_
                  simp [X4, fin]
              · simp [r_nil, storeP, hk]
                refine hX _ _ _ ?_
                simp [r_nil, storeP]
                refine hR _ _ ?_
                simp [X4, fin]
          · have hlt : A.length < E.length := by omega
            simp [callOk, r_nil, storeP, hlen, hlt]
            refine hR _ _ ?_
            simp [X4, fin]
end Go.Proofs.Ytnipkbhgaljcoaa.V
