/-
  Chapter 23: VolumeFits.
-/
import Derived.Test.YtnipkbhgaljcoaaVoA
import Derived.Test.YtnipkbhgaljcoaaVlA
namespace Go.Proofs.Ytnipkbhgaljcoaa.V
set_option linter.unusedSimpArgs false
set_option linter.unusedVariables false
set_option linter.unusedSectionVars false
open Go.Proofs.Ytnipkbhgaljcoaa.Am
theorem frzL : frzE ∘ L = L := rfl
set_option maxHeartbeats 4000000 in
theorem FitsLaw_fn (lv : List Int) (bg : List Bool) (an : List Int) (mo : Int) (es : List Int) (w0 w1 w2 : Int) (hl : lv.length ≤ maxLen) (hbg : bg.length ≤ maxLen) (ha : an.length ≤ maxLen) (hmo : 0 ≤ mo ∧ mo ≤ 255) (hes : es.length ≤ maxLen) (hw2 : 0 ≤ w2 ∧ w2 ≤ 255) :
    Am.Fn Try.prog 3 [0] [RawP lv bg an mo, LK .i8 es, .agg [.int .u8 w0, .int .u8 w1, .int .u8 w2]] (.bool true) := by
  obtain ⟨c, b, m, ⟨hs, hb9, hm1, hm6⟩, hM⟩ := Made_fn lv bg an mo hl hbg ha hmo
  obtain ⟨n, hn⟩ : ∃ n, b.length = n := ⟨_, rfl⟩
  have hcl : c.length = n := by rw [(shp_iff.1 hs).1, hn]
  have hcm : c.length ≤ maxLen := by unfold maxLen; omega
  have hbm : b.length < maxLen := by unfold maxLen; omega
  have tkL : List.take n (List.map L c) = List.map L c := List.take_of_length_le (by simp [hcl])
  have tkb : List.take n (List.map PV.bool b) = List.map PV.bool b := List.take_of_length_le (by simp [hn])
  have b1 : n * 24 ≤ 140737488355328 := by omega
  have b2 : n ≤ 140737488355328 := by omega
  have b3 : n + 1 ≤ 140737488355328 := by omega
  refine fn_introX mixed (X := X3) c3 22 (by simp [X3]) fun Q hR hN => ?_
  simp [X3]
  refine call_of sanity_fn ?_
  simp
  refine call_of hM ?_
  simp [hcl, hn]
  refine loopX (fun (i : Nat) vs h => i ≤ 10 ∧ ∃ E : List Int, E.length = i ∧
    vs = [.undef, LK .i8 es, .undef, .undef, .ptr 17 1 0, .undef, .bool true, .ptr 18 1 0, .own 19 1 E.length 1 0 E.length, I i, .undef, .undef, .undef, .undef, .undef, .undef, .undef, .undef] ∧
    h = List.replicate 17 (0, .dead) ++ [(1, .var [.int .u8 w0, .int .u8 w1, .int .u8 w2]), (1, .var [.own 20 1 n 1 0 n, .own 21 1 n 1 0 n, I m]), (1, .arr 1 0 false (E.map I)), (1, .arr 1 0 false (c.map UL)), (1, .arr 1 0 false (b.map .bool))]) (fun i => 10 - i) 0 ?_ ?_
  · simp
  · rintro i vs h ⟨h1, E, hE, rfl, rfl⟩ Q hK hX hR'
    by_cases hi : i < es.length
    · by_cases hi10 : (i : Int) < 10
      · have w1 : IntKind.i64.wrap ((i : Int) + 1) = (i : Int) + 1 := wrap_ok (by omega) (by omega)
        have b1 : (E.length + 1) * 8 ≤ 140737488355328 := by omega
        simp [hi, hi10, w1, b1]
        refine hK (i + 1) _ _ (by omega) ?_
        simp
        exact ⟨by omega, E ++ [IntKind.i64.wrap (es[i].tmod 11)], by simp [hE], by simp, by simp⟩
      · simp [hi, hi10]
        refine hX _ _ _ ?_
        clear hX hK hR'
        by_cases t1 : w0.tmod 4 = 1
        · obtain ⟨r, ⟨f, hr⟩, hB⟩ := Best_fn c b m hcm (by omega)
          simp [t1, tkL, tkb, frzUL, hcl, hn]
          refine call_of hB ?_
          rcases hr with rfl | ⟨E', hE', rfl⟩
          · simp [tkL, tkb, frzUL, hcl, hn]
            refine call_of (fitsP_fn c b m [] hcm hbm (by unfold maxLen; first | omega | (simp; done) | (simp; omega))) ?_
            simp [tkL, tkb, frzUL, frzL, hcl, hn, take_ml]
            refine call_of (Fits_fn c b m [] hcm hbm (by unfold maxLen; first | omega | (simp; done) | (simp; omega))) ?_
            simp [tkL, tkb, frzUL, frzL, hcl, hn, take_ml, b1, b2]
            by_cases t2 : w1.tmod 3 = 0
            · obtain ⟨b', hb', hbl⟩ : ∃ b', b ++ [true] = b' ∧ b'.length = n + 1 := ⟨_, rfl, by simp [hn]⟩
              have eB : List.map PV.bool b ++ [PV.bool true] = List.map PV.bool b' := by rw [← hb']; simp
              have tkb' : List.take (n + 1) (List.map PV.bool b') = List.map PV.bool b' := List.take_of_length_le (by simp [hbl])
              have hsf : shp c b'.length = false := by
                cases h : shp c b'.length
                · rfl
                · have := (shp_iff.1 h).1; omega
              have hsf' : shp c ((n : Int) + 1) = false := by rw [← hsf, hbl]; rfl
              simp [tkL, tkb, frzUL, frzL, hcl, hn, take_ml, b1, b2, b3, t2, eB, tkb', hbl]
              refine call_of (Split_fn c b' m (by unfold maxLen; omega) (by omega) hm1) ?_
              rw [splitP, if_neg (by rw [hsf]; simp)]
              try simp [tkL, tkb, frzUL, frzL, hcl, hn, take_ml, eB, tkb', hbl, hsf, hsf']
              refine call_of (fitsP_fn c b' m [] (by unfold maxLen; omega) (by unfold maxLen; omega) (by unfold maxLen; first | omega | (simp; done) | (simp; omega))) ?_
              try simp [tkL, tkb, frzUL, frzL, hcl, hn, take_ml, eB, tkb', hbl, hsf, hsf']
              refine call_of (Fits_fn c b' m [] (by unfold maxLen; omega) (by unfold maxLen; omega) (by unfold maxLen; first | omega | (simp; done) | (simp; omega))) ?_
              try simp [tkL, tkb, frzUL, frzL, hcl, hn, take_ml, eB, tkb', hbl, hsf, hsf']
              refine call_of (Shape_fn c b' m (by unfold maxLen; omega) (by unfold maxLen; omega)) ?_
              try simp [tkL, tkb, frzUL, frzL, hcl, hn, take_ml, eB, tkb', hbl, hsf, hsf']
              refine hR _ _ ?_
              simp [X3]
            · by_cases hn0 : n = 0
              · obtain rfl : c = [] := by cases c with | nil => rfl | cons _ _ => (simp at hcl; omega)
                obtain rfl : b = [] := by cases b with | nil => rfl | cons _ _ => (simp at hn; omega)
                have hn' : ¬ 0 < n := by omega
                simp [tkL, tkb, frzUL, frzL, hcl, hn, take_ml, b1, b2, t2, hn0]
                refine call_of (Split_fn [] [] m (by unfold maxLen; omega) (by omega) hm1) ?_
                simp [splitP, splitR, shp, ent, sol, path]
                try simp [tkL, tkb, frzUL, frzL, hcl, hn, take_ml, shp, fits, fitG, ent, sol, path]
                refine call_of (fitsP_fn [] [] m [] (by unfold maxLen; omega) (by unfold maxLen; omega) (by unfold maxLen; first | omega | (simp; done) | (simp; omega))) ?_
                try simp [tkL, tkb, frzUL, frzL, hcl, hn, take_ml, shp, fits, fitG, ent, sol, path]
                refine call_of (Fits_fn [] [] m [] (by unfold maxLen; omega) (by unfold maxLen; omega) (by unfold maxLen; first | omega | (simp; done) | (simp; omega))) ?_
                try simp [tkL, tkb, frzUL, frzL, hcl, hn, take_ml, shp, fits, fitG, ent, sol, path]
                refine call_of (Shape_fn [] [] m (by unfold maxLen; omega) (by unfold maxLen; omega)) ?_
                try simp [tkL, tkb, frzUL, frzL, hcl, hn, take_ml, shp, fits, fitG, ent, sol, path]
                refine hR _ _ ?_
                simp [X3]
              · have hn' : 0 < n := by omega
                obtain ⟨q, hq, e3⟩ : ∃ q : Nat, q < n ∧ (IntKind.i64.wrap w2).tmod (n : Int) = (q : Int) := by
                  rw [wrap_ok (by omega) (by omega), Int.tmod_eq_emod_of_nonneg hw2.1]
                  have h1 := Int.emod_nonneg w2 (b := (n : Int)) (by omega)
                  have h2 := Int.emod_lt_of_pos w2 (b := (n : Int)) (by omega)
                  exact ⟨(w2 % n).toNat, by omega, by omega⟩
                have hqc : q < c.length := by omega
                have hrl : c[q].length = n + 1 := by rw [(shp_iff.1 hs).2 _ (List.getElem_mem hqc), hn]
                obtain ⟨c', hc', hcl'⟩ : ∃ c', c.set q (c[q].take n) = c' ∧ c'.length = n := ⟨_, rfl, by simp [hcl]⟩
                have eC : (List.map L c).set q (PV.slc (List.take n (List.map I c[q]))) = List.map L c' := by
                  rw [← hc', List.map_set]
                  show (List.map L c).set q (PV.slc (List.take n (List.map I c[q]))) = (List.map L c).set q (PV.slc (List.map I (List.take n c[q])))
                  rw [List.map_take]
                have tkL' : List.take n (List.map L c') = List.map L c' := List.take_of_length_le (by simp [hcl'])
                have hsf : shp c' b.length = false := by
                  cases h : shp c' b.length
                  · rfl
                  · have h1 := (shp_iff.1 h).2 (c[q].take n) (by rw [← hc']; exact List.mem_set hqc _)
                    simp [hrl] at h1; omega
                have hsf' : shp c' (n : Int) = false := by rw [← hsf, hn]
                have qn : (q : Int) < n := by omega
                have nn1 : (n : Int) ≤ n + 1 := by omega
                simp [tkL, tkb, frzUL, frzL, hcl, hn, take_ml, b1, b2, t2, hn0, hn', e3, hq, qn, hqc, hrl, nn1, eC, tkL', hcl']
                refine call_of (Split_fn c' b m (by unfold maxLen; omega) (by omega) hm1) ?_
                rw [splitP, if_neg (by rw [hsf]; simp)]
                try simp [tkL, tkb, frzUL, frzL, hcl, hn, take_ml, tkL', hcl', hsf, hsf']
                refine call_of (fitsP_fn c' b m [] (by unfold maxLen; omega) (by unfold maxLen; omega) (by unfold maxLen; first | omega | (simp; done) | (simp; omega))) ?_
                try simp [tkL, tkb, frzUL, frzL, hcl, hn, take_ml, tkL', hcl', hsf, hsf']
                refine call_of (Fits_fn c' b m [] (by unfold maxLen; omega) (by unfold maxLen; omega) (by unfold maxLen; first | omega | (simp; done) | (simp; omega))) ?_
                try simp [tkL, tkb, frzUL, frzL, hcl, hn, take_ml, tkL', hcl', hsf, hsf']
                refine call_of (Shape_fn c' b m (by unfold maxLen; omega) (by unfold maxLen; omega)) ?_
                try simp [tkL, tkb, frzUL, frzL, hcl, hn, take_ml, tkL', hcl', hsf, hsf']
                refine hR _ _ ?_
                simp [X3]
          · simp [tkL, tkb, frzUL, hcl, hn, take_ml]
            refine call_of (fitsP_fn c b m E' hcm hbm (by unfold maxLen; first | omega | (simp; done) | (simp; omega))) ?_
            simp [tkL, tkb, frzUL, frzL, hcl, hn, take_ml]
            refine call_of (Fits_fn c b m E' hcm hbm (by unfold maxLen; first | omega | (simp; done) | (simp; omega))) ?_
            simp [tkL, tkb, frzUL, frzL, hcl, hn, take_ml, b1, b2]
            by_cases t2 : w1.tmod 3 = 0
            · obtain ⟨b', hb', hbl⟩ : ∃ b', b ++ [true] = b' ∧ b'.length = n + 1 := ⟨_, rfl, by simp [hn]⟩
              have eB : List.map PV.bool b ++ [PV.bool true] = List.map PV.bool b' := by rw [← hb']; simp
              have tkb' : List.take (n + 1) (List.map PV.bool b') = List.map PV.bool b' := List.take_of_length_le (by simp [hbl])
              have hsf : shp c b'.length = false := by
                cases h : shp c b'.length
                · rfl
                · have := (shp_iff.1 h).1; omega
              have hsf' : shp c ((n : Int) + 1) = false := by rw [← hsf, hbl]; rfl
              simp [tkL, tkb, frzUL, frzL, hcl, hn, take_ml, b1, b2, b3, t2, eB, tkb', hbl]
              refine call_of (Split_fn c b' m (by unfold maxLen; omega) (by omega) hm1) ?_
              rw [splitP, if_neg (by rw [hsf]; simp)]
              try simp [tkL, tkb, frzUL, frzL, hcl, hn, take_ml, eB, tkb', hbl, hsf, hsf']
              refine call_of (fitsP_fn c b' m E' (by unfold maxLen; omega) (by unfold maxLen; omega) (by unfold maxLen; first | omega | (simp; done) | (simp; omega))) ?_
              try simp [tkL, tkb, frzUL, frzL, hcl, hn, take_ml, eB, tkb', hbl, hsf, hsf']
              refine call_of (Fits_fn c b' m E' (by unfold maxLen; omega) (by unfold maxLen; omega) (by unfold maxLen; first | omega | (simp; done) | (simp; omega))) ?_
              try simp [tkL, tkb, frzUL, frzL, hcl, hn, take_ml, eB, tkb', hbl, hsf, hsf']
              refine call_of (Shape_fn c b' m (by unfold maxLen; omega) (by unfold maxLen; omega)) ?_
              try simp [tkL, tkb, frzUL, frzL, hcl, hn, take_ml, eB, tkb', hbl, hsf, hsf']
              refine hR _ _ ?_
              simp [X3]
            · by_cases hn0 : n = 0
              · obtain rfl : c = [] := by cases c with | nil => rfl | cons _ _ => (simp at hcl; omega)
                obtain rfl : b = [] := by cases b with | nil => rfl | cons _ _ => (simp at hn; omega)
                have hn' : ¬ 0 < n := by omega
                simp [tkL, tkb, frzUL, frzL, hcl, hn, take_ml, b1, b2, t2, hn0]
                refine call_of (Split_fn [] [] m (by unfold maxLen; omega) (by omega) hm1) ?_
                simp [splitP, splitR, shp, ent, sol, path]
                try simp [tkL, tkb, frzUL, frzL, hcl, hn, take_ml, shp, fits, fitG, ent, sol, path]
                refine call_of (fitsP_fn [] [] m E' (by unfold maxLen; omega) (by unfold maxLen; omega) (by unfold maxLen; first | omega | (simp; done) | (simp; omega))) ?_
                try simp [tkL, tkb, frzUL, frzL, hcl, hn, take_ml, shp, fits, fitG, ent, sol, path]
                refine call_of (Fits_fn [] [] m E' (by unfold maxLen; omega) (by unfold maxLen; omega) (by unfold maxLen; first | omega | (simp; done) | (simp; omega))) ?_
                try simp [tkL, tkb, frzUL, frzL, hcl, hn, take_ml, shp, fits, fitG, ent, sol, path]
                refine call_of (Shape_fn [] [] m (by unfold maxLen; omega) (by unfold maxLen; omega)) ?_
                try simp [tkL, tkb, frzUL, frzL, hcl, hn, take_ml, shp, fits, fitG, ent, sol, path]
                refine hR _ _ ?_
                simp [X3]
              · have hn' : 0 < n := by omega
                obtain ⟨q, hq, e3⟩ : ∃ q : Nat, q < n ∧ (IntKind.i64.wrap w2).tmod (n : Int) = (q : Int) := by
                  rw [wrap_ok (by omega) (by omega), Int.tmod_eq_emod_of_nonneg hw2.1]
                  have h1 := Int.emod_nonneg w2 (b := (n : Int)) (by omega)
                  have h2 := Int.emod_lt_of_pos w2 (b := (n : Int)) (by omega)
                  exact ⟨(w2 % n).toNat, by omega, by omega⟩
                have hqc : q < c.length := by omega
                have hrl : c[q].length = n + 1 := by rw [(shp_iff.1 hs).2 _ (List.getElem_mem hqc), hn]
                obtain ⟨c', hc', hcl'⟩ : ∃ c', c.set q (c[q].take n) = c' ∧ c'.length = n := ⟨_, rfl, by simp [hcl]⟩
                have eC : (List.map L c).set q (PV.slc (List.take n (List.map I c[q]))) = List.map L c' := by
                  rw [← hc', List.map_set]
                  show (List.map L c).set q (PV.slc (List.take n (List.map I c[q]))) = (List.map L c).set q (PV.slc (List.map I (List.take n c[q])))
                  rw [List.map_take]
                have tkL' : List.take n (List.map L c') = List.map L c' := List.take_of_length_le (by simp [hcl'])
                have hsf : shp c' b.length = false := by
                  cases h : shp c' b.length
                  · rfl
                  · have h1 := (shp_iff.1 h).2 (c[q].take n) (by rw [← hc']; exact List.mem_set hqc _)
                    simp [hrl] at h1; omega
                have hsf' : shp c' (n : Int) = false := by rw [← hsf, hn]
                have qn : (q : Int) < n := by omega
                have nn1 : (n : Int) ≤ n + 1 := by omega
                simp [tkL, tkb, frzUL, frzL, hcl, hn, take_ml, b1, b2, t2, hn0, hn', e3, hq, qn, hqc, hrl, nn1, eC, tkL', hcl']
                refine call_of (Split_fn c' b m (by unfold maxLen; omega) (by omega) hm1) ?_
                rw [splitP, if_neg (by rw [hsf]; simp)]
                try simp [tkL, tkb, frzUL, frzL, hcl, hn, take_ml, tkL', hcl', hsf, hsf']
                refine call_of (fitsP_fn c' b m E' (by unfold maxLen; omega) (by unfold maxLen; omega) (by unfold maxLen; first | omega | (simp; done) | (simp; omega))) ?_
                try simp [tkL, tkb, frzUL, frzL, hcl, hn, take_ml, tkL', hcl', hsf, hsf']
                refine call_of (Fits_fn c' b m E' (by unfold maxLen; omega) (by unfold maxLen; omega) (by unfold maxLen; first | omega | (simp; done) | (simp; omega))) ?_
                try simp [tkL, tkb, frzUL, frzL, hcl, hn, take_ml, tkL', hcl', hsf, hsf']
                refine call_of (Shape_fn c' b m (by unfold maxLen; omega) (by unfold maxLen; omega)) ?_
                try simp [tkL, tkb, frzUL, frzL, hcl, hn, take_ml, tkL', hcl', hsf, hsf']
                refine hR _ _ ?_
                simp [X3]
        · simp [t1, tkL, tkb, frzUL, hcl, hn, take_ml]
          refine call_of (fitsP_fn c b m E hcm hbm (by unfold maxLen; first | omega | (simp; done) | (simp; omega))) ?_
          simp [tkL, tkb, frzUL, frzL, hcl, hn, take_ml]
          refine call_of (Fits_fn c b m E hcm hbm (by unfold maxLen; first | omega | (simp; done) | (simp; omega))) ?_
          simp [tkL, tkb, frzUL, frzL, hcl, hn, take_ml, b1, b2]
          by_cases t2 : w1.tmod 3 = 0
          · obtain ⟨b', hb', hbl⟩ : ∃ b', b ++ [true] = b' ∧ b'.length = n + 1 := ⟨_, rfl, by simp [hn]⟩
            have eB : List.map PV.bool b ++ [PV.bool true] = List.map PV.bool b' := by rw [← hb']; simp
            have tkb' : List.take (n + 1) (List.map PV.bool b') = List.map PV.bool b' := List.take_of_length_le (by simp [hbl])
            have hsf : shp c b'.length = false := by
              cases h : shp c b'.length
              · rfl
              · have := (shp_iff.1 h).1; omega
            have hsf' : shp c ((n : Int) + 1) = false := by rw [← hsf, hbl]; rfl
            simp [tkL, tkb, frzUL, frzL, hcl, hn, take_ml, b1, b2, b3, t2, eB, tkb', hbl]
            refine call_of (Split_fn c b' m (by unfold maxLen; omega) (by omega) hm1) ?_
            rw [splitP, if_neg (by rw [hsf]; simp)]
            try simp [tkL, tkb, frzUL, frzL, hcl, hn, take_ml, eB, tkb', hbl, hsf, hsf']
            refine call_of (fitsP_fn c b' m E (by unfold maxLen; omega) (by unfold maxLen; omega) (by unfold maxLen; first | omega | (simp; done) | (simp; omega))) ?_
            try simp [tkL, tkb, frzUL, frzL, hcl, hn, take_ml, eB, tkb', hbl, hsf, hsf']
            refine call_of (Fits_fn c b' m E (by unfold maxLen; omega) (by unfold maxLen; omega) (by unfold maxLen; first | omega | (simp; done) | (simp; omega))) ?_
            try simp [tkL, tkb, frzUL, frzL, hcl, hn, take_ml, eB, tkb', hbl, hsf, hsf']
            refine call_of (Shape_fn c b' m (by unfold maxLen; omega) (by unfold maxLen; omega)) ?_
            try simp [tkL, tkb, frzUL, frzL, hcl, hn, take_ml, eB, tkb', hbl, hsf, hsf']
            refine hR _ _ ?_
            simp [X3]
          · by_cases hn0 : n = 0
            · obtain rfl : c = [] := by cases c with | nil => rfl | cons _ _ => (simp at hcl; omega)
              obtain rfl : b = [] := by cases b with | nil => rfl | cons _ _ => (simp at hn; omega)
              have hn' : ¬ 0 < n := by omega
              simp [tkL, tkb, frzUL, frzL, hcl, hn, take_ml, b1, b2, t2, hn0]
              refine call_of (Split_fn [] [] m (by unfold maxLen; omega) (by omega) hm1) ?_
              simp [splitP, splitR, shp, ent, sol, path]
              try simp [tkL, tkb, frzUL, frzL, hcl, hn, take_ml, shp, fits, fitG, ent, sol, path]
              refine call_of (fitsP_fn [] [] m E (by unfold maxLen; omega) (by unfold maxLen; omega) (by unfold maxLen; first | omega | (simp; done) | (simp; omega))) ?_
              try simp [tkL, tkb, frzUL, frzL, hcl, hn, take_ml, shp, fits, fitG, ent, sol, path]
              refine call_of (Fits_fn [] [] m E (by unfold maxLen; omega) (by unfold maxLen; omega) (by unfold maxLen; first | omega | (simp; done) | (simp; omega))) ?_
              try simp [tkL, tkb, frzUL, frzL, hcl, hn, take_ml, shp, fits, fitG, ent, sol, path]
              refine call_of (Shape_fn [] [] m (by unfold maxLen; omega) (by unfold maxLen; omega)) ?_
              try simp [tkL, tkb, frzUL, frzL, hcl, hn, take_ml, shp, fits, fitG, ent, sol, path]
              refine hR _ _ ?_
              simp [X3]
            · have hn' : 0 < n := by omega
              obtain ⟨q, hq, e3⟩ : ∃ q : Nat, q < n ∧ (IntKind.i64.wrap w2).tmod (n : Int) = (q : Int) := by
                rw [wrap_ok (by omega) (by omega), Int.tmod_eq_emod_of_nonneg hw2.1]
                have h1 := Int.emod_nonneg w2 (b := (n : Int)) (by omega)
                have h2 := Int.emod_lt_of_pos w2 (b := (n : Int)) (by omega)
                exact ⟨(w2 % n).toNat, by omega, by omega⟩
              have hqc : q < c.length := by omega
              have hrl : c[q].length = n + 1 := by rw [(shp_iff.1 hs).2 _ (List.getElem_mem hqc), hn]
              obtain ⟨c', hc', hcl'⟩ : ∃ c', c.set q (c[q].take n) = c' ∧ c'.length = n := ⟨_, rfl, by simp [hcl]⟩
              have eC : (List.map L c).set q (PV.slc (List.take n (List.map I c[q]))) = List.map L c' := by
                rw [← hc', List.map_set]
                show (List.map L c).set q (PV.slc (List.take n (List.map I c[q]))) = (List.map L c).set q (PV.slc (List.map I (List.take n c[q])))
                rw [List.map_take]
              have tkL' : List.take n (List.map L c') = List.map L c' := List.take_of_length_le (by simp [hcl'])
              have hsf : shp c' b.length = false := by
                cases h : shp c' b.length
                · rfl
                · have h1 := (shp_iff.1 h).2 (c[q].take n) (by rw [← hc']; exact List.mem_set hqc _)
                  simp [hrl] at h1; omega
              have hsf' : shp c' (n : Int) = false := by rw [← hsf, hn]
              have qn : (q : Int) < n := by omega
              have nn1 : (n : Int) ≤ n + 1 := by omega
              simp [tkL, tkb, frzUL, frzL, hcl, hn, take_ml, b1, b2, t2, hn0, hn', e3, hq, qn, hqc, hrl, nn1, eC, tkL', hcl']
              refine call_of (Split_fn c' b m (by unfold maxLen; omega) (by omega) hm1) ?_
              rw [splitP, if_neg (by rw [hsf]; simp)]
              try simp [tkL, tkb, frzUL, frzL, hcl, hn, take_ml, tkL', hcl', hsf, hsf']
              refine call_of (fitsP_fn c' b m E (by unfold maxLen; omega) (by unfold maxLen; omega) (by unfold maxLen; first | omega | (simp; done) | (simp; omega))) ?_
              try simp [tkL, tkb, frzUL, frzL, hcl, hn, take_ml, tkL', hcl', hsf, hsf']
              refine call_of (Fits_fn c' b m E (by unfold maxLen; omega) (by unfold maxLen; omega) (by unfold maxLen; first | omega | (simp; done) | (simp; omega))) ?_
              try simp [tkL, tkb, frzUL, frzL, hcl, hn, take_ml, tkL', hcl', hsf, hsf']
              refine call_of (Shape_fn c' b m (by unfold maxLen; omega) (by unfold maxLen; omega)) ?_
              try simp [tkL, tkb, frzUL, frzL, hcl, hn, take_ml, tkL', hcl', hsf, hsf']
              refine hR _ _ ?_
              simp [X3]
    · simp [hi]
      refine hX _ _ _ ?_
      clear hX hK hR'
      by_cases t1 : w0.tmod 4 = 1
      · obtain ⟨r, ⟨f, hr⟩, hB⟩ := Best_fn c b m hcm (by omega)
        simp [t1, tkL, tkb, frzUL, hcl, hn]
        refine call_of hB ?_
        rcases hr with rfl | ⟨E', hE', rfl⟩
        · simp [tkL, tkb, frzUL, hcl, hn]
          refine call_of (fitsP_fn c b m [] hcm hbm (by unfold maxLen; first | omega | (simp; done) | (simp; omega))) ?_
          simp [tkL, tkb, frzUL, frzL, hcl, hn, take_ml]
          refine call_of (Fits_fn c b m [] hcm hbm (by unfold maxLen; first | omega | (simp; done) | (simp; omega))) ?_
          simp [tkL, tkb, frzUL, frzL, hcl, hn, take_ml, b1, b2]
          by_cases t2 : w1.tmod 3 = 0
          · obtain ⟨b', hb', hbl⟩ : ∃ b', b ++ [true] = b' ∧ b'.length = n + 1 := ⟨_, rfl, by simp [hn]⟩
            have eB : List.map PV.bool b ++ [PV.bool true] = List.map PV.bool b' := by rw [← hb']; simp
            have tkb' : List.take (n + 1) (List.map PV.bool b') = List.map PV.bool b' := List.take_of_length_le (by simp [hbl])
            have hsf : shp c b'.length = false := by
              cases h : shp c b'.length
              · rfl
              · have := (shp_iff.1 h).1; omega
            have hsf' : shp c ((n : Int) + 1) = false := by rw [← hsf, hbl]; rfl
            simp [tkL, tkb, frzUL, frzL, hcl, hn, take_ml, b1, b2, b3, t2, eB, tkb', hbl]
            refine call_of (Split_fn c b' m (by unfold maxLen; omega) (by omega) hm1) ?_
            rw [splitP, if_neg (by rw [hsf]; simp)]
            try simp [tkL, tkb, frzUL, frzL, hcl, hn, take_ml, eB, tkb', hbl, hsf, hsf']
            refine call_of (fitsP_fn c b' m [] (by unfold maxLen; omega) (by unfold maxLen; omega) (by unfold maxLen; first | omega | (simp; done) | (simp; omega))) ?_
            try simp [tkL, tkb, frzUL, frzL, hcl, hn, take_ml, eB, tkb', hbl, hsf, hsf']
            refine call_of (Fits_fn c b' m [] (by unfold maxLen; omega) (by unfold maxLen; omega) (by unfold maxLen; first | omega | (simp; done) | (simp; omega))) ?_
            try simp [tkL, tkb, frzUL, frzL, hcl, hn, take_ml, eB, tkb', hbl, hsf, hsf']
            refine call_of (Shape_fn c b' m (by unfold maxLen; omega) (by unfold maxLen; omega)) ?_
            try simp [tkL, tkb, frzUL, frzL, hcl, hn, take_ml, eB, tkb', hbl, hsf, hsf']
            refine hR _ _ ?_
            simp [X3]
          · by_cases hn0 : n = 0
            · obtain rfl : c = [] := by cases c with | nil => rfl | cons _ _ => (simp at hcl; omega)
              obtain rfl : b = [] := by cases b with | nil => rfl | cons _ _ => (simp at hn; omega)
              have hn' : ¬ 0 < n := by omega
              simp [tkL, tkb, frzUL, frzL, hcl, hn, take_ml, b1, b2, t2, hn0]
              refine call_of (Split_fn [] [] m (by unfold maxLen; omega) (by omega) hm1) ?_
              simp [splitP, splitR, shp, ent, sol, path]
              try simp [tkL, tkb, frzUL, frzL, hcl, hn, take_ml, shp, fits, fitG, ent, sol, path]
              refine call_of (fitsP_fn [] [] m [] (by unfold maxLen; omega) (by unfold maxLen; omega) (by unfold maxLen; first | omega | (simp; done) | (simp; omega))) ?_
              try simp [tkL, tkb, frzUL, frzL, hcl, hn, take_ml, shp, fits, fitG, ent, sol, path]
              refine call_of (Fits_fn [] [] m [] (by unfold maxLen; omega) (by unfold maxLen; omega) (by unfold maxLen; first | omega | (simp; done) | (simp; omega))) ?_
              try simp [tkL, tkb, frzUL, frzL, hcl, hn, take_ml, shp, fits, fitG, ent, sol, path]
              refine call_of (Shape_fn [] [] m (by unfold maxLen; omega) (by unfold maxLen; omega)) ?_
              try simp [tkL, tkb, frzUL, frzL, hcl, hn, take_ml, shp, fits, fitG, ent, sol, path]
              refine hR _ _ ?_
              simp [X3]
            · have hn' : 0 < n := by omega
              obtain ⟨q, hq, e3⟩ : ∃ q : Nat, q < n ∧ (IntKind.i64.wrap w2).tmod (n : Int) = (q : Int) := by
                rw [wrap_ok (by omega) (by omega), Int.tmod_eq_emod_of_nonneg hw2.1]
                have h1 := Int.emod_nonneg w2 (b := (n : Int)) (by omega)
                have h2 := Int.emod_lt_of_pos w2 (b := (n : Int)) (by omega)
                exact ⟨(w2 % n).toNat, by omega, by omega⟩
              have hqc : q < c.length := by omega
              have hrl : c[q].length = n + 1 := by rw [(shp_iff.1 hs).2 _ (List.getElem_mem hqc), hn]
              obtain ⟨c', hc', hcl'⟩ : ∃ c', c.set q (c[q].take n) = c' ∧ c'.length = n := ⟨_, rfl, by simp [hcl]⟩
              have eC : (List.map L c).set q (PV.slc (List.take n (List.map I c[q]))) = List.map L c' := by
                rw [← hc', List.map_set]
                show (List.map L c).set q (PV.slc (List.take n (List.map I c[q]))) = (List.map L c).set q (PV.slc (List.map I (List.take n c[q])))
                rw [List.map_take]
              have tkL' : List.take n (List.map L c') = List.map L c' := List.take_of_length_le (by simp [hcl'])
              have hsf : shp c' b.length = false := by
                cases h : shp c' b.length
                · rfl
                · have h1 := (shp_iff.1 h).2 (c[q].take n) (by rw [← hc']; exact List.mem_set hqc _)
                  simp [hrl] at h1; omega
              have hsf' : shp c' (n : Int) = false := by rw [← hsf, hn]
              have qn : (q : Int) < n := by omega
              have nn1 : (n : Int) ≤ n + 1 := by omega
              simp [tkL, tkb, frzUL, frzL, hcl, hn, take_ml, b1, b2, t2, hn0, hn', e3, hq, qn, hqc, hrl, nn1, eC, tkL', hcl']
              refine call_of (Split_fn c' b m (by unfold maxLen; omega) (by omega) hm1) ?_
              rw [splitP, if_neg (by rw [hsf]; simp)]
              try simp [tkL, tkb, frzUL, frzL, hcl, hn, take_ml, tkL', hcl', hsf, hsf']
              refine call_of (fitsP_fn c' b m [] (by unfold maxLen; omega) (by unfold maxLen; omega) (by unfold maxLen; first | omega | (simp; done) | (simp; omega))) ?_
              try simp [tkL, tkb, frzUL, frzL, hcl, hn, take_ml, tkL', hcl', hsf, hsf']
              refine call_of (Fits_fn c' b m [] (by unfold maxLen; omega) (by unfold maxLen; omega) (by unfold maxLen; first | omega | (simp; done) | (simp; omega))) ?_
              try simp [tkL, tkb, frzUL, frzL, hcl, hn, take_ml, tkL', hcl', hsf, hsf']
              refine call_of (Shape_fn c' b m (by unfold maxLen; omega) (by unfold maxLen; omega)) ?_
              try simp [tkL, tkb, frzUL, frzL, hcl, hn, take_ml, tkL', hcl', hsf, hsf']
              refine hR _ _ ?_
              simp [X3]
        · simp [tkL, tkb, frzUL, hcl, hn, take_ml]
          refine call_of (fitsP_fn c b m E' hcm hbm (by unfold maxLen; first | omega | (simp; done) | (simp; omega))) ?_
          simp [tkL, tkb, frzUL, frzL, hcl, hn, take_ml]
          refine call_of (Fits_fn c b m E' hcm hbm (by unfold maxLen; first | omega | (simp; done) | (simp; omega))) ?_
          simp [tkL, tkb, frzUL, frzL, hcl, hn, take_ml, b1, b2]
          by_cases t2 : w1.tmod 3 = 0
          · obtain ⟨b', hb', hbl⟩ : ∃ b', b ++ [true] = b' ∧ b'.length = n + 1 := ⟨_, rfl, by simp [hn]⟩
            have eB : List.map PV.bool b ++ [PV.bool true] = List.map PV.bool b' := by rw [← hb']; simp
            have tkb' : List.take (n + 1) (List.map PV.bool b') = List.map PV.bool b' := List.take_of_length_le (by simp [hbl])
            have hsf : shp c b'.length = false := by
              cases h : shp c b'.length
              · rfl
              · have := (shp_iff.1 h).1; omega
            have hsf' : shp c ((n : Int) + 1) = false := by rw [← hsf, hbl]; rfl
            simp [tkL, tkb, frzUL, frzL, hcl, hn, take_ml, b1, b2, b3, t2, eB, tkb', hbl]
            refine call_of (Split_fn c b' m (by unfold maxLen; omega) (by omega) hm1) ?_
            rw [splitP, if_neg (by rw [hsf]; simp)]
            try simp [tkL, tkb, frzUL, frzL, hcl, hn, take_ml, eB, tkb', hbl, hsf, hsf']
            refine call_of (fitsP_fn c b' m E' (by unfold maxLen; omega) (by unfold maxLen; omega) (by unfold maxLen; first | omega | (simp; done) | (simp; omega))) ?_
            try simp [tkL, tkb, frzUL, frzL, hcl, hn, take_ml, eB, tkb', hbl, hsf, hsf']
            refine call_of (Fits_fn c b' m E' (by unfold maxLen; omega) (by unfold maxLen; omega) (by unfold maxLen; first | omega | (simp; done) | (simp; omega))) ?_
            try simp [tkL, tkb, frzUL, frzL, hcl, hn, take_ml, eB, tkb', hbl, hsf, hsf']
            refine call_of (Shape_fn c b' m (by unfold maxLen; omega) (by unfold maxLen; omega)) ?_
            try simp [tkL, tkb, frzUL, frzL, hcl, hn, take_ml, eB, tkb', hbl, hsf, hsf']
            refine hR _ _ ?_
            simp [X3]
          · by_cases hn0 : n = 0
            · obtain rfl : c = [] := by cases c with | nil => rfl | cons _ _ => (simp at hcl; omega)
              obtain rfl : b = [] := by cases b with | nil => rfl | cons _ _ => (simp at hn; omega)
              have hn' : ¬ 0 < n := by omega
              simp [tkL, tkb, frzUL, frzL, hcl, hn, take_ml, b1, b2, t2, hn0]
              refine call_of (Split_fn [] [] m (by unfold maxLen; omega) (by omega) hm1) ?_
              simp [splitP, splitR, shp, ent, sol, path]
              try simp [tkL, tkb, frzUL, frzL, hcl, hn, take_ml, shp, fits, fitG, ent, sol, path]
              refine call_of (fitsP_fn [] [] m E' (by unfold maxLen; omega) (by unfold maxLen; omega) (by unfold maxLen; first | omega | (simp; done) | (simp; omega))) ?_
              try simp [tkL, tkb, frzUL, frzL, hcl, hn, take_ml, shp, fits, fitG, ent, sol, path]
              refine call_of (Fits_fn [] [] m E' (by unfold maxLen; omega) (by unfold maxLen; omega) (by unfold maxLen; first | omega | (simp; done) | (simp; omega))) ?_
              try simp [tkL, tkb, frzUL, frzL, hcl, hn, take_ml, shp, fits, fitG, ent, sol, path]
              refine call_of (Shape_fn [] [] m (by unfold maxLen; omega) (by unfold maxLen; omega)) ?_
              try simp [tkL, tkb, frzUL, frzL, hcl, hn, take_ml, shp, fits, fitG, ent, sol, path]
              refine hR _ _ ?_
              simp [X3]
            · have hn' : 0 < n := by omega
              obtain ⟨q, hq, e3⟩ : ∃ q : Nat, q < n ∧ (IntKind.i64.wrap w2).tmod (n : Int) = (q : Int) := by
                rw [wrap_ok (by omega) (by omega), Int.tmod_eq_emod_of_nonneg hw2.1]
                have h1 := Int.emod_nonneg w2 (b := (n : Int)) (by omega)
                have h2 := Int.emod_lt_of_pos w2 (b := (n : Int)) (by omega)
                exact ⟨(w2 % n).toNat, by omega, by omega⟩
              have hqc : q < c.length := by omega
              have hrl : c[q].length = n + 1 := by rw [(shp_iff.1 hs).2 _ (List.getElem_mem hqc), hn]
              obtain ⟨c', hc', hcl'⟩ : ∃ c', c.set q (c[q].take n) = c' ∧ c'.length = n := ⟨_, rfl, by simp [hcl]⟩
              have eC : (List.map L c).set q (PV.slc (List.take n (List.map I c[q]))) = List.map L c' := by
                rw [← hc', List.map_set]
                show (List.map L c).set q (PV.slc (List.take n (List.map I c[q]))) = (List.map L c).set q (PV.slc (List.map I (List.take n c[q])))
                rw [List.map_take]
              have tkL' : List.take n (List.map L c') = List.map L c' := List.take_of_length_le (by simp [hcl'])
              have hsf : shp c' b.length = false := by
                cases h : shp c' b.length
                · rfl
                · have h1 := (shp_iff.1 h).2 (c[q].take n) (by rw [← hc']; exact List.mem_set hqc _)
                  simp [hrl] at h1; omega
              have hsf' : shp c' (n : Int) = false := by rw [← hsf, hn]
              have qn : (q : Int) < n := by omega
              have nn1 : (n : Int) ≤ n + 1 := by omega
              simp [tkL, tkb, frzUL, frzL, hcl, hn, take_ml, b1, b2, t2, hn0, hn', e3, hq, qn, hqc, hrl, nn1, eC, tkL', hcl']
              refine call_of (Split_fn c' b m (by unfold maxLen; omega) (by omega) hm1) ?_
              rw [splitP, if_neg (by rw [hsf]; simp)]
              try simp [tkL, tkb, frzUL, frzL, hcl, hn, take_ml, tkL', hcl', hsf, hsf']
              refine call_of (fitsP_fn c' b m E' (by unfold maxLen; omega) (by unfold maxLen; omega) (by unfold maxLen; first | omega | (simp; done) | (simp; omega))) ?_
              try simp [tkL, tkb, frzUL, frzL, hcl, hn, take_ml, tkL', hcl', hsf, hsf']
              refine call_of (Fits_fn c' b m E' (by unfold maxLen; omega) (by unfold maxLen; omega) (by unfold maxLen; first | omega | (simp; done) | (simp; omega))) ?_
              try simp [tkL, tkb, frzUL, frzL, hcl, hn, take_ml, tkL', hcl', hsf, hsf']
              refine call_of (Shape_fn c' b m (by unfold maxLen; omega) (by unfold maxLen; omega)) ?_
              try simp [tkL, tkb, frzUL, frzL, hcl, hn, take_ml, tkL', hcl', hsf, hsf']
              refine hR _ _ ?_
              simp [X3]
      · simp [t1, tkL, tkb, frzUL, hcl, hn, take_ml]
        refine call_of (fitsP_fn c b m E hcm hbm (by unfold maxLen; first | omega | (simp; done) | (simp; omega))) ?_
        simp [tkL, tkb, frzUL, frzL, hcl, hn, take_ml]
        refine call_of (Fits_fn c b m E hcm hbm (by unfold maxLen; first | omega | (simp; done) | (simp; omega))) ?_
        simp [tkL, tkb, frzUL, frzL, hcl, hn, take_ml, b1, b2]
        by_cases t2 : w1.tmod 3 = 0
        · obtain ⟨b', hb', hbl⟩ : ∃ b', b ++ [true] = b' ∧ b'.length = n + 1 := ⟨_, rfl, by simp [hn]⟩
          have eB : List.map PV.bool b ++ [PV.bool true] = List.map PV.bool b' := by rw [← hb']; simp
          have tkb' : List.take (n + 1) (List.map PV.bool b') = List.map PV.bool b' := List.take_of_length_le (by simp [hbl])
          have hsf : shp c b'.length = false := by
            cases h : shp c b'.length
            · rfl
            · have := (shp_iff.1 h).1; omega
          have hsf' : shp c ((n : Int) + 1) = false := by rw [← hsf, hbl]; rfl
          simp [tkL, tkb, frzUL, frzL, hcl, hn, take_ml, b1, b2, b3, t2, eB, tkb', hbl]
          refine call_of (Split_fn c b' m (by unfold maxLen; omega) (by omega) hm1) ?_
          rw [splitP, if_neg (by rw [hsf]; simp)]
          try simp [tkL, tkb, frzUL, frzL, hcl, hn, take_ml, eB, tkb', hbl, hsf, hsf']
          refine call_of (fitsP_fn c b' m E (by unfold maxLen; omega) (by unfold maxLen; omega) (by unfold maxLen; first | omega | (simp; done) | (simp; omega))) ?_
          try simp [tkL, tkb, frzUL, frzL, hcl, hn, take_ml, eB, tkb', hbl, hsf, hsf']
          refine call_of (Fits_fn c b' m E (by unfold maxLen; omega) (by unfold maxLen; omega) (by unfold maxLen; first | omega | (simp; done) | (simp; omega))) ?_
          try simp [tkL, tkb, frzUL, frzL, hcl, hn, take_ml, eB, tkb', hbl, hsf, hsf']
          refine call_of (Shape_fn c b' m (by unfold maxLen; omega) (by unfold maxLen; omega)) ?_
          try simp [tkL, tkb, frzUL, frzL, hcl, hn, take_ml, eB, tkb', hbl, hsf, hsf']
          refine hR _ _ ?_
          simp [X3]
        · by_cases hn0 : n = 0
          · obtain rfl : c = [] := by cases c with | nil => rfl | cons _ _ => (simp at hcl; omega)
            obtain rfl : b = [] := by cases b with | nil => rfl | cons _ _ => (simp at hn; omega)
            have hn' : ¬ 0 < n := by omega
            simp [tkL, tkb, frzUL, frzL, hcl, hn, take_ml, b1, b2, t2, hn0]
            refine call_of (Split_fn [] [] m (by unfold maxLen; omega) (by omega) hm1) ?_
            simp [splitP, splitR, shp, ent, sol, path]
            try simp [tkL, tkb, frzUL, frzL, hcl, hn, take_ml, shp, fits, fitG, ent, sol, path]
            refine call_of (fitsP_fn [] [] m E (by unfold maxLen; omega) (by unfold maxLen; omega) (by unfold maxLen; first | omega | (simp; done) | (simp; omega))) ?_
            try simp [tkL, tkb, frzUL, frzL, hcl, hn, take_ml, shp, fits, fitG, ent, sol, path]
            refine call_of (Fits_fn [] [] m E (by unfold maxLen; omega) (by unfold maxLen; omega) (by unfold maxLen; first | omega | (simp; done) | (simp; omega))) ?_
            try simp [tkL, tkb, frzUL, frzL, hcl, hn, take_ml, shp, fits, fitG, ent, sol, path]
            refine call_of (Shape_fn [] [] m (by unfold maxLen; omega) (by unfold maxLen; omega)) ?_
            try simp [tkL, tkb, frzUL, frzL, hcl, hn, take_ml, shp, fits, fitG, ent, sol, path]
            refine hR _ _ ?_
            simp [X3]
          · have hn' : 0 < n := by omega
            obtain ⟨q, hq, e3⟩ : ∃ q : Nat, q < n ∧ (IntKind.i64.wrap w2).tmod (n : Int) = (q : Int) := by
              rw [wrap_ok (by omega) (by omega), Int.tmod_eq_emod_of_nonneg hw2.1]
              have h1 := Int.emod_nonneg w2 (b := (n : Int)) (by omega)
              have h2 := Int.emod_lt_of_pos w2 (b := (n : Int)) (by omega)
              exact ⟨(w2 % n).toNat, by omega, by omega⟩
            have hqc : q < c.length := by omega
            have hrl : c[q].length = n + 1 := by rw [(shp_iff.1 hs).2 _ (List.getElem_mem hqc), hn]
            obtain ⟨c', hc', hcl'⟩ : ∃ c', c.set q (c[q].take n) = c' ∧ c'.length = n := ⟨_, rfl, by simp [hcl]⟩
            have eC : (List.map L c).set q (PV.slc (List.take n (List.map I c[q]))) = List.map L c' := by
              rw [← hc', List.map_set]
              show (List.map L c).set q (PV.slc (List.take n (List.map I c[q]))) = (List.map L c).set q (PV.slc (List.map I (List.take n c[q])))
              rw [List.map_take]
            have tkL' : List.take n (List.map L c') = List.map L c' := List.take_of_length_le (by simp [hcl'])
            have hsf : shp c' b.length = false := by
              cases h : shp c' b.length
              · rfl
              · have h1 := (shp_iff.1 h).2 (c[q].take n) (by rw [← hc']; exact List.mem_set hqc _)
                simp [hrl] at h1; omega
            have hsf' : shp c' (n : Int) = false := by rw [← hsf, hn]
            have qn : (q : Int) < n := by omega
            have nn1 : (n : Int) ≤ n + 1 := by omega
            simp [tkL, tkb, frzUL, frzL, hcl, hn, take_ml, b1, b2, t2, hn0, hn', e3, hq, qn, hqc, hrl, nn1, eC, tkL', hcl']
            refine call_of (Split_fn c' b m (by unfold maxLen; omega) (by omega) hm1) ?_
            rw [splitP, if_neg (by rw [hsf]; simp)]
            try simp [tkL, tkb, frzUL, frzL, hcl, hn, take_ml, tkL', hcl', hsf, hsf']
            refine call_of (fitsP_fn c' b m E (by unfold maxLen; omega) (by unfold maxLen; omega) (by unfold maxLen; first | omega | (simp; done) | (simp; omega))) ?_
            try simp [tkL, tkb, frzUL, frzL, hcl, hn, take_ml, tkL', hcl', hsf, hsf']
            refine call_of (Fits_fn c' b m E (by unfold maxLen; omega) (by unfold maxLen; omega) (by unfold maxLen; first | omega | (simp; done) | (simp; omega))) ?_
            try simp [tkL, tkb, frzUL, frzL, hcl, hn, take_ml, tkL', hcl', hsf, hsf']
            refine call_of (Shape_fn c' b m (by unfold maxLen; omega) (by unfold maxLen; omega)) ?_
            try simp [tkL, tkb, frzUL, frzL, hcl, hn, take_ml, tkL', hcl', hsf, hsf']
            refine hR _ _ ?_
            simp [X3]
end Go.Proofs.Ytnipkbhgaljcoaa.V
