/-
  Chapter 20: Lay.
-/
import Derived.Test.YtfpkcjjgooigbaaQCsA
namespace Go.Proofs.Ytfpkcjjgooigbaa.C
set_option linter.unusedSimpArgs false
set_option linter.unusedVariables false
set_option linter.unusedSectionVars false
open Go.Proofs.Ytfpkcjjgooigbaa.Am
open Go.Proofs.Ytfpkcjjgooigbaa.L (mixed wrap_ok I U CL CLL UCL Word clean words zeros brk brkG longG breakR errR okI)
set_option maxHeartbeats 8000000
theorem entries_fi2 (rows : List Row) (r0 r1 r2 r3 r4 r5 r6 r7 r8 r9 r10 r11 : Am.Row) (ob : Ob) : FI Try.prog (.fn (.func 34) [] []) [RWS rows] [r0, r1, r2, r3, r4, r5, r6, r7, r8, r9, r10, r11, (1, ob)] (.fn (.func 51) [] [.ptr 12 2 0]) [(12, (2, .var [RWS rows]))] := by
  refine fn_introXI mixed (X := X34) c34 (by simp [X34]) (by simp) fun Q hR hN => ?_
  simp [X34]
  refine hR _ _ ?_
  simp [X34, finI]
theorem Lay0 (rows : List Row) (w : Int) (hl : rows.length ≤ 100) (he : ∀ r ∈ rows, ∀ x ∈ r, x.length ≤ 1000) : Am.Fn Try.prog 18 [1, 0, 0] [RWS rows, I w] (layPV .tup UCL UCL CL rows w) := by
  have hev := even_fn rows (by omega)
  refine fn_introX mixed (X := X18) c18 13 (by simp [X18]) fun Q hR hN => ?_
  by_cases t1 : w < 24
  · simp [X18, t1]
    refine hR _ _ ?_
    rw [layPV, if_pos (.inl t1)]
    simp [X18]
  by_cases t2 : 60 < w
  · simp [X18, t1, t2]
    refine hR _ _ ?_
    rw [layPV, if_pos (.inr t2)]
    simp [X18]
  by_cases h0 : evenB rows = true
  · rw [h0] at hev
    have E := Ev.of h0 hl he
    obtain ⟨hp, h1, h4, ha, hl', he'⟩ := id E
    simp [X18, t1, t2]
    refine call_of hev ?_
    simp
    refine callv_of (entries_fi rows _ _ _ _ _ _ _ _ _ _ _ _) ?_
    simp
    refine range_of mixed (X := X51) c51 rfl (by rfl) (by simp [X51]) (by simp) ?_
    intro l Q2 hR2 hN2
    simp [X51]
    refine loopR (fun (i : Nat) vs h' => i ≤ rows.length ∧ ClAtR rows i ∧ ∃ (a2 a3 a4 a8 a9 a10 a11 a12 a13 : PV), vs = [.fn (.yield l) [] [], .ptr 12 1 0, a2, a3, a4, RWS rows, I rows.length, I i, a8, a9, a10, a11, a12, a13, gOf none] ∧
      h' = [(1, .var [I w]), (1, .var [.nils]), (1, .var [I 0]), (1, .var [I 0]), dd, dd, dd, dd, dd, dd, dd, dd, (1, .var [RWS rows])]) (fun i => rows.length - i) 0 ?_ ?_
    · exact ⟨Nat.zero_le _, fun i hi hi' => by omega, _, _, _, _, _, _, _, _, _, rfl, by simp⟩
    · rintro i vs h' ⟨g1, g2, a2, a3, a4, a8, a9, a10, a11, a12, a13, rfl, rfl⟩ Q3 hK3 hX3 hR3
      have hw1 : IntKind.i64.wrap ((i : Int) + 1) = ((i + 1 : Nat) : Int) := wrap_ok (by omega) (by omega)
      by_cases hi : i < rows.length
      · have hai := ha i hi
        simp [hi]
        refine loopR (fun (k : Nat) vs h' => k ≤ rows[i].length ∧ ClIn rows[i] k ∧ ∃ (a3 a4 a8 a12 a13 : PV), vs = [.fn (.yield l) [] [], .ptr 12 1 0, RW rows[i], a3, a4, RWS rows, I rows.length, I i, a8, RW rows[i], I rows[i].length, I k, a12, a13, gOf none] ∧
          h' = [(1, .var [I w]), (1, .var [.nils]), (1, .var [I 0]), (1, .var [I 0]), dd, dd, dd, dd, dd, dd, dd, dd, (1, .var [RWS rows])]) (fun k => rows[i].length - k) 0 ?_ ?_
        · exact ⟨Nat.zero_le _, fun i hi hi' => by omega, a3, a4, _, _, _, rfl, by simp⟩
        · rintro k vs h' ⟨g3, g4, a3, a4, a8, a12, a13, rfl, rfl⟩ Q4 hK4 hX4 hR4
          by_cases hk : k < rows[i].length
          · have hxl := he' i hi k hk
            have hB := L.cleanP_fn rows[i][k] (by unfold maxLen; omega)
            have hw2 : IntKind.i64.wrap ((k : Int) + 1) = ((k + 1 : Nat) : Int) := wrap_ok (by omega) (by omega)
            simp [hk]
            refine yield_of rfl rfl ?_
            simp [loopY]
            refine call_of hB ?_
            by_cases hc : cl rows[i][k] = true
            · have hc' : (clean rows[i][k]).2 = true := hc
              rw [hc']
              simp [hw2]
              refine hK4 (k + 1) _ _ (by omega) ?_
              have hn : ClIn rows[i] (k + 1) := fun t ht htk => by
                by_cases htk' : t < k
                · exact g4 t ht htk'
                · obtain rfl : t = k := by omega
                  exact hc
              exact ⟨by omega, hn, I k, CL rows[i][k], a8, .bool true, .bool false, by simp, by simp⟩
            · have hc' : (clean rows[i][k]).2 = false := by simpa [cl] using hc
              rw [hc']
              simp
              have hno := clB_not hi hk (show cl rows[i][k] = false by simpa using hc)
              refine hR4 _ _ ?_
              simp
              refine hR3 _ _ ?_
              simp
              refine hR2 (some .ret) _ _ (by rfl) ?_
              simp
              refine hR _ _ ?_
              rw [layPV, if_neg (by omega), if_neg (by rw [h0]; simp), if_pos hno]
              simp [X18]
          · obtain rfl : k = rows[i].length := by omega
            have hn : ClAtR rows (i + 1) := fun t ht hti k' hk' => by
              by_cases hti' : t < i
              · exact g2 t ht hti' k' hk'
              · obtain rfl : t = i := by omega
                exact g4 k' hk' hk'
            simp
            refine hX4 _ _ _ ?_
            simp [hw1]
            refine hK3 (i + 1) _ _ (by omega) ?_
            exact ⟨by omega, hn, RW rows[i], a3, a4, a8, RW rows[i], I rows[i].length, I rows[i].length, .bool false, a13, by simp, by simp⟩
      · obtain rfl : i = rows.length := by omega
        have hcB := clB_of g2
        simp
        refine hX3 _ _ _ ?_
        simp
        refine hN2 none _ _ (by rfl) ?_
        simp
        rw [layPV, if_neg (by omega), if_neg (by rw [h0]; simp), if_neg (by rw [hcB]; simp)] at hR
        have hA := ahead_fn rows E
        have hW := widths_fn rows E
        have hcn := nc_eq hp
        have hcw := colW_le E (nc rows - 1)
        have hsle := sumW_le E (nc rows - 1)
        obtain ⟨n, hn⟩ : ∃ n, n = nc rows - 1 := ⟨_, rfl⟩
        have hwid : widthN rows = 2 * n + sumW rows n + colW rows n := by
          unfold widthN
          obtain ⟨m, hm⟩ : ∃ m, nc rows = m + 1 := ⟨nc rows - 1, by omega⟩
          rw [hm] at hn ⊢
          obtain rfl : n = m := by omega
          show 2 * (n + 1 - 1) + (sumW rows n + colW rows n) = _
          omega
        rw [← hn] at hA hcw hsle
        have w0 : IntKind.i64.wrap ((nc rows : Int) - 1) = (n : Int) := by rw [wrap_ok (by omega) (by omega)]; omega
        have hn4 : (n : Int) < 4 := by omega
        have hg := WA_get rows (show n < 4 by omega)
        have w1 : IntKind.i64.wrap (((2 * n + sumW rows n : Nat) : Int) + (colW rows n : Int)) = (widthN rows : Int) := by
          rw [wrap_ok (by omega) (by omega)]; omega
        obtain ⟨s, hs⟩ : ∃ s, s = 2 * n + sumW rows n := ⟨_, rfl⟩
        rw [← hs] at hA w1
        have hg' : (WA rows)[n]? = some (I (colW rows n)) := by rw [List.getElem?_eq_getElem (by simp; omega), hg]
        have hwl : (WA rows).length = 4 := rfl
        refine call_of hA ?_
        simp
        refine call_of hW ?_
        have hnw : (n : Int).toNat = n := rfl
        simp [hp, hcn, w0, hn4, hg', w1]
        by_cases hw1 : (widthN rows : Int) ≤ w
        · rw [if_pos hw1] at hR
          have hC := inColumns_fn rows E
          simp [hw1]
          refine call_of hC ?_
          simp
          refine hR _ _ ?_
          simp [X18]
        · rw [if_neg hw1] at hR
          have hS := asStairs_fn rows E
          obtain ⟨q1, q2⟩ := stairs_all E
          have hwt : ((w.toNat : Nat) : Int) = w := by omega
          have hF := fit_fn (stairsL rows) w.toNat q2
          rw [hwt] at hF
          have hfd : decide (longest (stairsL rows) ≤ w.toNat) = decide ((longest (stairsL rows) : Int) ≤ w) := decide_eq_decide.2 (by omega)
          rw [hfd] at hF
          simp [hw1]
          refine call_of hS ?_
          have hfz : List.map (frzE ∘ UCL) (stairsL rows) = (stairsL rows).map CL := List.map_congr_left fun r _ => rfl
          simp [hfz]
          refine call_of hF ?_
          by_cases hw2 : (longest (stairsL rows) : Int) ≤ w
          · rw [if_pos hw2] at hR
            simp [hw2, hfz]
            refine hR _ _ ?_
            simp [X18]
          · rw [if_neg hw2] at hR
            simp [hw2, hfz]
            refine callv_of (entries_fi2 rows _ _ _ _ _ _ _ _ _ _ _ _ _) ?_
            simp
            refine range_of mixed (X := X51) c51 rfl (by rfl) (by simp [X51]) (by simp) ?_
            intro l Q2 hR2 hN2
            simp [X51]
            have hwr : 24 ≤ w.toNat ∧ w.toNat ≤ 60 := by omega
            obtain ⟨st, hst⟩ : ∃ st : Am.Row, st = (1, Ob.arr 1 0 false (List.map UCL (stairsL rows))) := ⟨_, rfl⟩
            rw [← hst]
            refine loopR (fun (i : Nat) vs h' => i ≤ rows.length ∧ FitAt w.toNat rows i ∧ ∃ (r7 : Am.Row) (a2 a3 a4 a8 a9 a10 a11 a12 a13 : PV), vs = [.fn (.yield l) [] [], .ptr 12 2 0, a2, a3, a4, RWS rows, I rows.length, I i, a8, a9, a10, a11, a12, a13, gOf none] ∧
              h' = [(1, .var [I w]), (1, .var [.nils]), (1, .var [I 0]), (1, .var [I 0]), dd, st, (1, .var [.own 8 1 (listU w.toNat rows i).length 1 0 (listU w.toNat rows i).length]), r7, (1, .arr 1 0 false ((listU w.toNat rows i).map CL)), dd, dd, dd, (2, .var [RWS rows])]) (fun i => rows.length - i) 0 ?_ ?_
            · exact ⟨Nat.zero_le _, fun i hi hi' => by omega, dd, _, _, _, _, _, _, _, _, _, rfl, by simp [listU]⟩
            · rintro i vs h' ⟨g1, gF, r7, a2, a3, a4, a8, a9, a10, a11, a12, a13, rfl, rfl⟩ Q3 hK3 hX3 hR3
              have hwi : IntKind.i64.wrap ((i : Int) + 1) = ((i + 1 : Nat) : Int) := wrap_ok (by omega) (by omega)
              by_cases hi : i < rows.length
              · have hai := ha i hi
                have hol := listU_len (w := w.toNat) E i (by omega)
                have hs := listU_succ (w := w.toNat) hi
                obtain ⟨o, ho⟩ : ∃ o, o = listU w.toNat rows i := ⟨_, rfl⟩
                rw [← ho] at hol hs
                rw [← ho]
                simp [hi]
                refine loopR (fun (k : Nat) vs h' => k ≤ rows[i].length ∧ FitIn w.toNat rows[i] k ∧ ∃ (r7 : Am.Row) (a3 a4 a8 a12 a13 : PV), vs = [.fn (.yield l) [] [], .ptr 12 2 0, RW rows[i], a3, a4, RWS rows, I rows.length, I i, a8, RW rows[i], I rows[i].length, I k, a12, a13, gOf none] ∧
                  h' = [(1, .var [I w]), (1, .var [.nils]), (1, .var [I 0]), (1, .var [I 0]), dd, st, (1, .var [.own 8 1 (o ++ listPre w.toNat rows[i] k).length 1 0 (o ++ listPre w.toNat rows[i] k).length]), r7, (1, .arr 1 0 false ((o ++ listPre w.toNat rows[i] k).map CL)), dd, dd, dd, (2, .var [RWS rows])]) (fun k => rows[i].length - k) 0 ?_ ?_
                · exact ⟨Nat.zero_le _, fun t ht => by omega, r7, a3, a4, _, _, _, rfl, by simp [listPre]⟩
                · rintro k vs h' ⟨g3, gI, r7, a3, a4, a8, a12, a13, rfl, rfl⟩ Q4 hK4 hX4 hR4
                  by_cases hk : k < rows[i].length
                  · have hal := listPre_len (w := w.toNat) E hi k g3
                    have hgd : rows[i].getD k [] = rows[i][k] := by rw [List.getD_eq_getElem?_getD, List.getElem?_eq_getElem hk]; rfl
                    have hlp : o ++ listPre w.toNat rows[i] (k + 1) = (o ++ listPre w.toNat rows[i] k) ++ brk w.toNat (4 * k) (4 * k + 2) (words rows[i][k]) := by
                      rw [listPre, hgd, List.append_assoc]
                    have hlen : (o ++ listPre w.toNat rows[i] k).length ≤ 500000 := by rw [List.length_append]; omega
                    have hB := L.breakP_fn rows[i][k] w ((4 * k : Nat) : Int) ((4 * k + 2 : Nat) : Int) (he' i hi k hk)
                    have hI := indents_fn k (by omega)
                    have hok : okI ((4 * k : Nat) : Int) ((4 * k + 2 : Nat) : Int) = true := by simp [okI]; omega
                    have hw2 : IntKind.i64.wrap ((k : Int) + 1) = ((k + 1 : Nat) : Int) := wrap_ok (by omega) (by omega)
                    unfold breakR at hB
                    rw [if_neg (by rw [hok]; simp; omega), if_neg (by have := g2 i hi hi k hk; unfold cl at this; rw [this]; simp)] at hB
                    generalize o ++ listPre w.toNat rows[i] k = a at hlp hlen
                    have ec1 : ((4 * k : Nat) : Int) = 4 * (k : Int) := by omega
                    have ec2 : ((4 * k + 2 : Nat) : Int) = 4 * (k : Int) + 2 := by omega
                    by_cases hf : fitB w.toNat k rows[i][k] = true
                    · have hf' : longG ((w.toNat : Int) - max ((4 * k : Nat) : Int) ((4 * k + 2 : Nat) : Int)) 0 (words rows[i][k]) < 0 := of_decide_eq_true hf
                      rw [hwt] at hf'
                      rw [if_neg (by omega)] at hB
                      have hbl := brk_len w.toNat (4 * k) (4 * k + 2) (words rows[i][k])
                      have hwl := words_len rows[i][k]
                      have hel := he' i hi k hk
                      have hIn : FitIn w.toNat rows[i] (k + 1) := fun t ht => by
                        by_cases htk : t < k
                        · exact gI t htk
                        · obtain rfl : t = k := by omega
                          rw [hgd]; exact hf
                      simp only [Int.toNat_natCast] at hB
                      have hbn := brk_ne w.toNat (4 * k) (4 * k + 2) rows[i][k]
                      generalize brk w.toNat (4 * k) (4 * k + 2) (words rows[i][k]) = b at hB hbl hlp hbn
                      have hbn' : ¬ ∀ x, ¬ x ∈ b := fun h => hbn (List.eq_nil_iff_forall_not_mem.2 h)
                      have hfz : List.map (frzE ∘ UCL) b = b.map CL := List.map_congr_left fun r _ => rfl
                      have c1 : (a.length + b.length) * 24 ≤ 140737488355328 := by omega
                      rw [ec1, ec2] at hB
                      simp [hk]
                      refine yield_of rfl rfl ?_
                      simp [loopY]
                      refine call_of hI ?_
                      simp
                      refine call_of hB ?_
                      simp [hfz, c1, hw2, hbn']
                      refine hK4 (k + 1) _ _ (by omega) ?_
                      rw [hlp]
                      exact ⟨by omega, hIn, (r7.1 + 1, .arr 1 1 false (b.map CL)), I k, CL rows[i][k], a8, .bool true, .bool false, by simp, by simp⟩
                    · have hf' : ¬ longG ((w.toNat : Int) - max ((4 * k : Nat) : Int) ((4 * k + 2 : Nat) : Int)) 0 (words rows[i][k]) < 0 := fun h => hf (decide_eq_true h)
                      rw [hwt] at hf'
                      rw [if_pos (by omega)] at hB
                      have hno := all_not hi (fitR_not hk (by rw [hgd]; exact Bool.not_eq_true _ ▸ hf))
                      unfold errR at hB
                      rw [ec1, ec2] at hB
                      simp [hk]
                      refine yield_of rfl rfl ?_
                      simp [loopY]
                      refine call_of hI ?_
                      simp
                      refine call_of hB ?_
                      simp
                      refine hR4 _ _ ?_
                      simp
                      refine hR3 _ _ ?_
                      simp
                      refine hR2 (some .ret) _ _ (by rfl) ?_
                      simp
                      refine hR _ _ ?_
                      rw [if_neg (by rw [hno]; simp)]
                      simp [X18]
                  · obtain rfl : k = rows[i].length := by omega
                    have hn : FitAt w.toNat rows (i + 1) := fun t ht hti => by
                      by_cases hti' : t < i
                      · exact gF t ht hti'
                      · obtain rfl : t = i := by omega
                        exact fitR_of gI
                    rw [← hs]
                    simp
                    refine hX4 _ _ _ ?_
                    simp [hwi]
                    refine hK3 (i + 1) _ _ (by omega) ?_
                    exact ⟨by omega, hn, r7, RW rows[i], a3, a4, a8, RW rows[i], I rows[i].length, I rows[i].length, .bool false, a13, by simp, by simp⟩
              · obtain rfl : i = rows.length := by omega
                rw [if_pos (all_of gF)] at hR
                rw [listU_all]
                simp
                refine hX3 _ _ _ ?_
                simp
                refine hN2 none _ _ (by rfl) ?_
                simp
                refine hR _ _ ?_
                simp [X18]
  · have h0' : evenB rows = false := by simpa using h0
    rw [h0'] at hev
    simp [X18, t1, t2]
    refine call_of hev ?_
    simp
    refine hR _ _ ?_
    rw [layPV, if_neg (by omega), if_pos h0']
    simp [X18]
theorem lay_frzT {f : FuncId} {args : List PV} {rows : List Row} {w : Int} {f1 f2 f3 : Word → PV} (h1 : f1 = UCL ∨ f1 = CL) (h2 : f2 = UCL ∨ f2 = CL) (h3 : f3 = UCL ∨ f3 = CL) (h : Am.Fn Try.prog f [1, 0, 0] args (layPV .tup f1 f2 f3 rows w)) : Am.Fn Try.prog f [1, 0, 0] args (resPV .tup (layR rows w)) := by
  have key : ∀ (g : Word → PV) (l : List Word) (a b : Int), (g = UCL ∨ g = CL) → Am.Fn Try.prog f [1, 0, 0] args (.tup [.uslc (l.map g), I a, I b]) → Am.Fn Try.prog f [1, 0, 0] args (.tup [CLL l, I a, I b]) := fun g l a b hg hh => by
    rcases hg with rfl | rfl
    · have := Fn_tupF (nrUCL l) hh; rw [fzUCL] at this; exact this
    · have := Fn_tupF (nrCL l) hh; rw [fzCL] at this; exact this
  unfold layPV at h
  unfold resPV layR
  split at h
  · rename_i c; rw [if_pos c]; exact Fn_tupN h
  rename_i c; rw [if_neg c]
  split at h
  · rename_i c; rw [if_pos c]; exact Fn_tupN h
  rename_i c; rw [if_neg c]
  split at h
  · rename_i c; rw [if_pos c]; exact Fn_tupN h
  rename_i c; rw [if_neg c]
  split at h
  · rename_i c; rw [if_pos c]; exact key _ _ _ _ h1 h
  rename_i c; rw [if_neg c]
  split at h
  · rename_i c; rw [if_pos c]; exact key _ _ _ _ h2 h
  rename_i c; rw [if_neg c]
  split at h
  · rename_i c; rw [if_pos c]; exact key _ _ _ _ h3 h
  · rename_i c; rw [if_neg c]; exact Fn_tupN h
theorem Lay_fn (rows : List Row) (w : Int) (hl : rows.length ≤ 100) (he : ∀ r ∈ rows, ∀ x ∈ r, x.length ≤ 1000) : Am.Fn Try.prog 18 [1, 0, 0] [RWS rows, I w] (resPV .tup (layR rows w)) :=
  lay_frzT (.inl rfl) (.inl rfl) (.inr rfl) (Lay0 rows w hl he)
end Go.Proofs.Ytfpkcjjgooigbaa.C
