/-
  Chapter 18: cells made for the laws.
-/
import Derived.Test.YtnlapjkfbodbkaaLfA
namespace Go.Proofs.Ytnlapjkfbodbkaa.L
set_option linter.unusedSimpArgs false
set_option linter.unusedVariables false
set_option linter.unusedSectionVars false
open Go.Proofs.Ytnlapjkfbodbkaa.Am
set_option maxHeartbeats 2000000
theorem run_fn (n : Nat) (hn : n ≤ 1000) : Am.Fn Try.prog 26 [1] [I n] (.uslc ((List.replicate n 1).map U)) := by
  refine fn_introX mixed (X := X26) c26 4 (by simp [X26]) fun Q hR hN => ?_
  simp [X26]
  refine loopX (fun (k : Nat) vs h => k ≤ n ∧ vs = [I n, .undef, .own 3 1 k 1 0 k, I k, .undef] ∧ h = [(0, .dead), (0, .dead), (0, .dead), (1, .arr 1 0 false ((List.replicate k 1).map U))]) (fun k => n - k) 0 ?_ ?_
  · simp
  · rintro k vs h ⟨h1, rfl, rfl⟩ Q hK hX hR'
    by_cases hk : k < n
    · have hw : IntKind.i64.wrap ((k : Int) + 1) = (k : Int) + 1 := wrap_ok (by omega) (by omega)
      have b : k + 1 ≤ 140737488355328 := by omega
      simp [hk, hw, b]
      refine hK (k + 1) _ _ (by omega) ?_
      simp [List.replicate_succ']
      omega
    · obtain rfl : k = n := by omega
      simp
      refine hX _ _ _ ?_
      simp
      refine hR _ _ ?_
      simp [X26]
theorem Frame_fn (w0 w1 w2 : Int) (h0 : 0 ≤ w0 ∧ w0 ≤ 255) (h1 : 0 ≤ w1 ∧ w1 ≤ 255) (h2 : 0 ≤ w2 ∧ w2 ≤ 255) :
    Am.Fn Try.prog 21 [0, 0, 0] [.agg [U w0, U w1, U w2]] (.tup [I (24 + w0 % 12), .agg [I (w1 % 9), I (w2 % 9)]]) := by
  refine fn_introX mixed (X := X21) c21 2 (by simp [X21]) fun Q hR hN => ?_
  have e0 : (IntKind.i64.wrap w0).tmod 12 = w0 % 12 := by rw [wrap_ok (by omega) (by omega), Int.tmod_eq_emod_of_nonneg h0.1]
  have e1 : (IntKind.i64.wrap w1).tmod 9 = w1 % 9 := by rw [wrap_ok (by omega) (by omega), Int.tmod_eq_emod_of_nonneg h1.1]
  have e2 : (IntKind.i64.wrap w2).tmod 9 = w2 % 9 := by rw [wrap_ok (by omega) (by omega), Int.tmod_eq_emod_of_nonneg h2.1]
  have e3 : IntKind.i64.wrap (24 + w0 % 12) = 24 + w0 % 12 := wrap_ok (by omega) (by omega)
  simp [X21, e0, e1, e2, e3]
  refine hR _ _ ?_
  simp [X21]
theorem Made_fn (l : List Int) (hl : l.length ≤ maxLen) (hb : ∀ x ∈ l, 0 ≤ x ∧ x ≤ 255) :
    ∃ cells : Word, (clean cells).2 = true ∧ cells.length ≤ 500 ∧ Am.Fn Try.prog 20 [1] [.slc (l.map U)] (UCL cells) := by
  suffices h : ∃ r, (∃ cells : Word, (clean cells).2 = true ∧ cells.length ≤ 500 ∧ r = UCL cells) ∧ Am.Fn Try.prog 20 [1] [.slc (l.map U)] r by
    obtain ⟨r, ⟨c, h1, h2, rfl⟩, h3⟩ := h; exact ⟨c, h1, h2, h3⟩
  refine fn_introE mixed (X := X20) c20 7 (by simp [X20]) fun Q hR hN => ?_
  simp [X20]
  refine loopX (fun (i : Nat) vs h => i ≤ 20 ∧ ∃ (ws : List Word) (n : Nat), ws.length = i ∧ (∀ w ∈ ws, wd w) ∧ (ic ws).length ≤ 25 * i ∧ n ≤ 24 * i ∧
    vs = [.slc (l.map U), .undef, .own 6 1 (ic ws).length 1 0 (ic ws).length, I n, I i, .undef, .undef, .undef, .undef, .undef] ∧
    h = List.replicate 6 (0, .dead) ++ [(1, .arr 1 0 false ((ic ws).map U))]) (fun i => 20 - i) 0 ?_ ?_
  · simp
    exact ⟨rfl, rfl, rfl⟩
  · rintro i vs h ⟨h1, ws, n, h2, h3, h4, h5, rfl, rfl⟩ Q hK hX hR'
    have stop : ∀ (v6 : PV), Q (.exit 0) [.slc (l.map U), .undef, .own 6 1 (ic ws).length 1 0 (ic ws).length, I n, I i, .undef, v6, .undef, .undef, .undef] (List.replicate 6 (0, .dead) ++ [(1, .arr 1 0 false ((ic ws).map U))]) := fun v6 => by
      refine hX _ _ _ ?_
      by_cases h0 : ws = []
      · subst h0
        simp [ic]
        refine hR (UCL [1]) _ _ ⟨[1], by simp [clean, cleanG], by simp, rfl⟩ ?_
        simp [X20]
      · have hi : ic ws ≠ [] := by obtain ⟨c, r, e, _⟩ := ic_head h0 h3; rw [e]; simp
        simp [hi]
        refine hR (UCL (ic ws)) _ _ ⟨ic ws, by rw [clean_ic h0 h3], by omega, rfl⟩ ?_
        simp [X20]
    by_cases hi : i < l.length
    · by_cases hi2 : (i : Int) < 20
      · obtain ⟨m, hm, hm1⟩ : ∃ m : Nat, (IntKind.i64.wrap l[i]).tmod 24 = (m : Int) ∧ m < 24 := by
          have := hb _ (List.getElem_mem hi)
          rw [wrap_ok (by omega) (by omega), Int.tmod_eq_emod_of_nonneg this.1]
          exact ⟨(l[i] % 24).toNat, by omega, by omega⟩
        have hw : IntKind.i64.wrap ((i : Int) + 1) = (i : Int) + 1 := wrap_ok (by omega) (by omega)
        have b1 : (ic ws).length + 1 ≤ 140737488355328 := by omega
        by_cases hi0 : 0 < i
        · have hne : ws ≠ [] := fun e => by (rw [e] at h2; simp at h2; omega)
          obtain ⟨pre, hpre⟩ : ∃ pre : Word, ic ws ++ [0] = pre := ⟨_, rfl⟩
          have hpl : pre.length ≤ 25 * i + 1 := by rw [← hpre]; simp; omega
          have hfin : ∀ w, ic (ws ++ [w]) = pre ++ w := fun w => by rw [ic_snoc w hne, ← hpre]; simp
          simp [hi, hi2, hi0, b1]
          refine loopX (fun (k : Nat) vs h => k ≤ m + 1 ∧ ∃ (o w : Word), o = pre ++ w ∧ w.length = k ∧ (∀ c ∈ w, c ≠ 0 ∧ c ≤ 63) ∧
            vs = [.slc (l.map U), .undef, .own 6 1 o.length 1 0 o.length, I ((n + k : Nat) : Int), I i, I k, .undef, .undef, .undef, .undef] ∧
            h = List.replicate 6 (0, .dead) ++ [(1, .arr 1 0 false (o.map U))]) (fun k => m + 1 - k) 0 ?_ ?_
          · simp
            exact ⟨pre, [], by simp, by simp, by simp, by rw [← hpre]; simp, by rw [← hpre]; simp⟩
          · rintro k vs h ⟨g1, o, w, g0, g2, g3, rfl, rfl⟩ Q hK2 hX2 hR2
            have hol : o.length = pre.length + k := by rw [g0, List.length_append, g2]
            by_cases hk : k ≤ m
            · obtain ⟨c, hc, hc1, hc2⟩ : ∃ c : Int, IntKind.u8.wrap (IntKind.i64.wrap (1 + (((n + k : Nat) : Int)).tmod 63)) = c ∧ c ≠ 0 ∧ c ≤ 63 := by
                rw [Int.tmod_eq_emod_of_nonneg (by omega), wrap_ok (by omega) (by omega)]
                refine ⟨_, rfl, ?_⟩
                simp only [IntKind.wrap, IntKind.signed, IntKind.bits]
                simp
                omega
              have hw3 : IntKind.i64.wrap (((n + k : Nat) : Int) + 1) = ((n + k : Nat) : Int) + 1 := wrap_ok (by omega) (by omega)
              have hw4 : IntKind.i64.wrap ((k : Int) + 1) = (k : Int) + 1 := wrap_ok (by omega) (by omega)
              have b2 : (o.length + 1) ≤ 140737488355328 := by omega
              have hkm : (k : Int) ≤ m := by omega
              simp only [Int.natCast_add] at hc hw3
              simp [hi, hm, hk, hkm, hc, hw3, hw4, b2]
              refine hK2 (k + 1) _ _ (by omega) ?_
              simp
              refine ⟨by omega, o ++ [c], w ++ [c], by rw [g0]; simp, by simp [g2], fun x hx => ?_, by simp; omega, by simp⟩
              rcases List.mem_append.1 hx with hx | hx
              · exact g3 x hx
              · simp at hx; subst hx; exact ⟨hc1, hc2⟩
            · obtain rfl : k = m + 1 := by omega
              have hkm : ¬ (m : Int) + 1 ≤ m := by omega
              simp [hi, hm, hkm]
              refine hX2 _ _ _ ?_
              have hwd : wd w := ⟨fun e => by (rw [e] at g2; simp at g2), g3⟩
              have e : ic (ws ++ [w]) = o := by rw [hfin, g0]
              simp [hw]
              refine hK (i + 1) _ _ (by omega) ?_
              simp
              refine ⟨by omega, ws ++ [w], by simp [h2], fun v hv => ?_, by rw [e]; omega, n + (m + 1), by omega, by rw [e]; simp, by rw [e]⟩
              rcases List.mem_append.1 hv with hv | hv
              · exact h3 v hv
              · simp at hv; subst hv; exact hwd
        · have hne : ws = [] := List.length_eq_zero_iff.1 (by omega)
          obtain ⟨pre, hpre⟩ : ∃ pre : Word, ic ws = pre := ⟨_, rfl⟩
          have hpl : pre.length ≤ 25 * i + 1 := by rw [← hpre]; omega
          have hfin : ∀ w, ic (ws ++ [w]) = pre ++ w := fun w => by rw [← hpre, hne]; simp [ic]
          simp [hi, hi2, hi0, b1]
          refine loopX (fun (k : Nat) vs h => k ≤ m + 1 ∧ ∃ (o w : Word), o = pre ++ w ∧ w.length = k ∧ (∀ c ∈ w, c ≠ 0 ∧ c ≤ 63) ∧
            vs = [.slc (l.map U), .undef, .own 6 1 o.length 1 0 o.length, I ((n + k : Nat) : Int), I i, I k, .undef, .undef, .undef, .undef] ∧
            h = List.replicate 6 (0, .dead) ++ [(1, .arr 1 0 false (o.map U))]) (fun k => m + 1 - k) 0 ?_ ?_
          · simp
            exact ⟨pre, [], by simp, by simp, by simp, by rw [← hpre], by rw [← hpre]⟩
          · rintro k vs h ⟨g1, o, w, g0, g2, g3, rfl, rfl⟩ Q hK2 hX2 hR2
            have hol : o.length = pre.length + k := by rw [g0, List.length_append, g2]
            by_cases hk : k ≤ m
            · obtain ⟨c, hc, hc1, hc2⟩ : ∃ c : Int, IntKind.u8.wrap (IntKind.i64.wrap (1 + (((n + k : Nat) : Int)).tmod 63)) = c ∧ c ≠ 0 ∧ c ≤ 63 := by
                rw [Int.tmod_eq_emod_of_nonneg (by omega), wrap_ok (by omega) (by omega)]
                refine ⟨_, rfl, ?_⟩
                simp only [IntKind.wrap, IntKind.signed, IntKind.bits]
                simp
                omega
              have hw3 : IntKind.i64.wrap (((n + k : Nat) : Int) + 1) = ((n + k : Nat) : Int) + 1 := wrap_ok (by omega) (by omega)
              have hw4 : IntKind.i64.wrap ((k : Int) + 1) = (k : Int) + 1 := wrap_ok (by omega) (by omega)
              have b2 : (o.length + 1) ≤ 140737488355328 := by omega
              have hkm : (k : Int) ≤ m := by omega
              simp only [Int.natCast_add] at hc hw3
              simp [hi, hm, hk, hkm, hc, hw3, hw4, b2]
              refine hK2 (k + 1) _ _ (by omega) ?_
              simp
              refine ⟨by omega, o ++ [c], w ++ [c], by rw [g0]; simp, by simp [g2], fun x hx => ?_, by simp; omega, by simp⟩
              rcases List.mem_append.1 hx with hx | hx
              · exact g3 x hx
              · simp at hx; subst hx; exact ⟨hc1, hc2⟩
            · obtain rfl : k = m + 1 := by omega
              have hkm : ¬ (m : Int) + 1 ≤ m := by omega
              simp [hi, hm, hkm]
              refine hX2 _ _ _ ?_
              have hwd : wd w := ⟨fun e => by (rw [e] at g2; simp at g2), g3⟩
              have e : ic (ws ++ [w]) = o := by rw [hfin, g0]
              simp [hw]
              refine hK (i + 1) _ _ (by omega) ?_
              simp
              refine ⟨by omega, ws ++ [w], by simp [h2], fun v hv => ?_, by rw [e]; omega, n + (m + 1), by omega, by rw [e]; simp, by rw [e]⟩
              rcases List.mem_append.1 hv with hv | hv
              · exact h3 v hv
              · simp at hv; subst hv; exact hwd
      · simp [hi, hi2]
        exact stop _
    · simp [hi]
      exact stop _
end Go.Proofs.Ytnlapjkfbodbkaa.L
