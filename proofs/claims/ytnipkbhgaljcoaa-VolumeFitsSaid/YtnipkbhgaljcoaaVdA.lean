/-
  Chapter 23: the program's Fits.
-/
import Derived.Test.YtnipkbhgaljcoaaVcA
namespace Go.Proofs.Ytnipkbhgaljcoaa.V
set_option linter.unusedSimpArgs false
set_option linter.unusedVariables false
set_option linter.unusedSectionVars false
open Go.Proofs.Ytnipkbhgaljcoaa.Am
theorem fitsP_fn (c : List (List Int)) (b : List Bool) (m : Int) (ends : List Int) (hc : c.length ≤ maxLen) (hb : b.length < maxLen) (hl : ends.length ≤ maxLen) : Am.Fn Try.prog 10 [0] [LL c, BL b, L ends, I m] (.bool (fits c b m ends)) := by
  refine fn_introX mixed (X := X10) c10 0 (by simp [X10]) fun Q hR hN => ?_
  simp [X10, r_nil]
  refine call_of (shaped_fn c b.length hc ⟨by omega, by unfold maxLen at hb; omega⟩) ?_
  cases hs : shp c b.length with
  | false =>
    simp [callOk, r_nil]
    refine hR _ _ ?_
    simp [X10, fin, fits, hs]
  | true =>
    simp [callOk, r_nil]
    refine loopX (fun (s : Nat × Nat) vs h => s.1 ≤ ends.length ∧ s.2 ≤ b.length ∧ fitG c b m b.length 0 ends = fitG c b m b.length s.2 (ends.drop s.1) ∧ vs = [LL c, BL b, .undef, I m, .undef, I b.length, I s.2, .undef, .undef, L ends, I ends.length, I s.1, .undef, .undef, .undef] ∧ h = []) (fun s => ends.length - s.1) (0, 0) ?_ ?_
    · simp [settled, settled, one]
    · rintro ⟨k, f⟩ vs h ⟨h1, h2, h3, rfl, rfl⟩ Q hK hX hR'
      dsimp only at h1 h2 h3
      by_cases hk : k < ends.length
      · have hwk : IntKind.i64.wrap ((k : Int) + 1) = ((k + 1 : Nat) : Int) := wrap_ok (by omega) (by unfold maxLen at hl; omega)
        obtain ⟨e, he⟩ : ∃ e, ends[k] = e := ⟨_, rfl⟩
        have hd : ends.drop k = e :: ends.drop (k + 1) := by
          rw [List.drop_eq_getElem_cons hk, he]
        rw [hd, fitG] at h3
        by_cases t1 : e ≤ f
        · simp [r_nil, hk, he, t1]
          refine hR' _ _ ?_
          simp [r_nil]
          refine hR _ _ ?_
          simp [X10, fin, fits, hs, h3]
          intro h; omega
        · have t1' : (f : Int) < e := by omega
          obtain ⟨j, rfl⟩ := Int.eq_ofNat_of_zero_le (show 0 ≤ e by omega)
          by_cases t2 : b.length < j
          · simp [r_nil, hk, he, t1, t2]
            refine hR' _ _ ?_
            simp [r_nil]
            refine hR _ _ ?_
            simp [X10, fin, fits, hs, h3]
            intro h h'; omega
          · have t2' : (j : Int) ≤ b.length := by omega
            have hf : f < b.length := by omega
            obtain ⟨row, r1, r2⟩ := cst_get hs hf (show j ≤ b.length by omega)
            have hbf := bget hf
            obtain ⟨v, hv⟩ : ∃ v, cst c f j = v := ⟨_, rfl⟩
            obtain ⟨bi, hbi⟩ : ∃ bi, b.getD f false = bi := ⟨_, rfl⟩
            rw [hv] at r2
            rw [hbi] at hbf
            have hok : okv c b m f j = may v m f bi := by rw [okv, hv, hbi]
            rw [show ((j : Int)).toNat = j from rfl, hok] at h3
            by_cases t3 : f ≠ 0 ∧ bi = false
            · obtain ⟨h0, rfl⟩ := t3
              have h0' : 0 < f := by omega
              simp [r_nil, hk, he, t1, t2, h0', hbf]
              refine hR' _ _ ?_
              simp [r_nil]
              refine hR _ _ ?_
              simp [X10, fin, fits, hs, h3, may, h0]
            · have t30 : f = 0 ∨ (0 < f ∧ bi = true) := by
                rcases Nat.eq_zero_or_pos f with h | h
                · exact .inl h
                · cases bi
                  · exact absurd ⟨by omega, rfl⟩ t3
                  · exact .inr ⟨h, rfl⟩
              clear t3
              have hjz : ¬ j = 0 := by omega
              have hm : may v m f bi = (decide (1 ≤ v) && decide (v ≤ m)) := by rcases t30 with rfl | ⟨_, rfl⟩ <;> simp [may]
              rw [hm] at h3
              have hg : f = 0 ∨ (0 < f ∧ b[f]? = some true) := by
                rcases t30 with h | ⟨h, rfl⟩
                · exact .inl h
                · exact .inr ⟨h, hbf⟩
              clear t30 hbf hbi hok hv hf
              rcases hg with rfl | ⟨h0, hbf⟩
              · have g1 := hjz
                have g2 := hjz
                by_cases t4 : v < 1
                · simp [r_nil, hk, he, t1, t2, t4, r1, r2, hjz, g1, g2]
                  refine hR' _ _ ?_
                  simp [r_nil]
                  refine hR _ _ ?_
                  simp [X10, fin, fits, hs, h3, may]
                  intros; omega
                · by_cases t5 : m < v
                  · simp [r_nil, hk, he, t1, t2, t4, t5, r1, r2, hjz, g1, g2]
                    refine hR' _ _ ?_
                    simp [r_nil]
                    refine hR _ _ ?_
                    simp [X10, fin, fits, hs, h3, may]
                    intros; omega
                  · have t4' : 1 ≤ v := by omega
                    have t5' : v ≤ m := by omega
                    simp [r_nil, hk, he, hwk, t1, t2, t4, t5, r1, r2, hjz, g1, g2]
                    refine hK (k + 1, j) _ _ (by dsimp only; omega) ?_
                    simp [settled, settled, one]
                    exact ⟨by omega, by omega, by rw [h3]; simp [t2', t4', t5']; intros; omega⟩
              · have g1 := h0
                have g2 := hbf
                by_cases t4 : v < 1
                · simp [r_nil, hk, he, t1, t2, t4, r1, r2, hjz, g1, g2]
                  refine hR' _ _ ?_
                  simp [r_nil]
                  refine hR _ _ ?_
                  simp [X10, fin, fits, hs, h3, may]
                  intros; omega
                · by_cases t5 : m < v
                  · simp [r_nil, hk, he, t1, t2, t4, t5, r1, r2, hjz, g1, g2]
                    refine hR' _ _ ?_
                    simp [r_nil]
                    refine hR _ _ ?_
                    simp [X10, fin, fits, hs, h3, may]
                    intros; omega
                  · have t4' : 1 ≤ v := by omega
                    have t5' : v ≤ m := by omega
                    simp [r_nil, hk, he, hwk, t1, t2, t4, t5, r1, r2, hjz, g1, g2]
                    refine hK (k + 1, j) _ _ (by dsimp only; omega) ?_
                    simp [settled, settled, one]
                    exact ⟨by omega, by omega, by rw [h3]; simp [t2', t4', t5']; intros; omega⟩
      · simp [r_nil, hk]
        refine hX _ _ _ ?_
        rw [List.drop_eq_nil_of_le (by omega), fitG] at h3
        simp [r_nil]
        refine hR _ _ ?_
        simp [X10, fin, fits, hs, h3]
end Go.Proofs.Ytnipkbhgaljcoaa.V
