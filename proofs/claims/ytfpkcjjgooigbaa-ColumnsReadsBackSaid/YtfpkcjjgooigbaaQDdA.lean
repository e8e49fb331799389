/-
  Chapter 20: the laws of greater widths, of lines, and of some of the rows.
-/
import Derived.Test.YtfpkcjjgooigbaaQDcA
namespace Go.Proofs.Ytfpkcjjgooigbaa.C
set_option linter.unusedSimpArgs false
set_option linter.unusedVariables false
set_option linter.unusedSectionVars false
open Go.Proofs.Ytfpkcjjgooigbaa.Am
open Go.Proofs.Ytfpkcjjgooigbaa.L (mixed wrap_ok I U CL CLL UCL Word clean words zeros ic wd brk brkG longG)
set_option maxHeartbeats 8000000
theorem mod_ok {w : Int} (hw : 0 ≤ w ∧ w ≤ 255) (m : Int) (hm : 0 < m ∧ m ≤ 100) : ∃ n : Nat, w.tmod m = n ∧ (n : Int) < m ∧ IntKind.u8.wrap n = n ∧ IntKind.i64.wrap n = n := by
  rw [Int.tmod_eq_emod_of_nonneg hw.1]
  have h1 := Int.emod_nonneg w (show m ≠ 0 by omega)
  have h2 := Int.emod_lt_of_pos w hm.1
  exact ⟨(w % m).toNat, by omega, by omega, u8w (by omega), wrap_ok (by omega) (by omega)⟩
theorem lay_short {rows : List Row} (M : Md rows) {w : Nat} (h : 24 ≤ w ∧ w ≤ 60) : (layR rows w).L.length ≤ 100000 := by
  have n4 := M.n4
  have c4 := M.ev'.c4
  have h1 := stairs_len M
  have h2 := listU_len M.ev' (w := w) rows.length (Nat.le_refl _)
  rw [listU_all] at h2
  have h3 : rows.length * nc rows ≤ 4 * 4 := Nat.mul_le_mul n4 c4
  rw [layR_md M h]
  split
  · simp [colsL]; omega
  · split
    · dsimp only; omega
    · split
      · dsimp only; omega
      · simp
theorem Widens_fn (cols most : Int) (l : List (List Int)) (w more : Int) (hc : 0 ≤ cols ∧ cols ≤ 255) (hm : 0 ≤ most ∧ most ≤ 255) (hl : ∀ x ∈ l, ∀ a ∈ x, 0 ≤ a ∧ a ≤ 255) (hw : 0 ≤ w ∧ w ≤ 255) (ho : 0 ≤ more ∧ more ≤ 255) :
    Am.Fn Try.prog 6 [0] [RawP cols most l, U w, U more] (.bool true) := by
  obtain ⟨rows, M, hM⟩ := Made_md cols most l hc hm hl
  obtain ⟨c, w1, w2, w3, w4⟩ := mod_ok hw 37 (by omega)
  obtain ⟨d, d1, d2, d3, d4⟩ := mod_ok ho 20 (by omega)
  obtain ⟨W, hW⟩ : ∃ W : Nat, W = 24 + c := ⟨_, rfl⟩
  have w5 : IntKind.i64.wrap (24 + (c : Int)) = (W : Int) := by rw [wrap_ok (by omega) (by omega)]; omega
  have d6 : IntKind.i64.wrap ((W : Int) + d) = (W : Int) + d := wrap_ok (by omega) (by omega)
  obtain ⟨W', hW'⟩ : ∃ W' : Nat, W' = min (W + d) 60 := ⟨_, rfl⟩
  have d7 : ∀ [inst : Decidable (60 < ((W : Int) + (d : Int)))], (if 60 < ((W : Int) + (d : Int)) then (60 : Int) else (W : Int) + (d : Int)) = (W' : Int) := by intro _; split <;> omega
  have A := lay_fn rows W (by have := M.n4; omega) fun r hr x hx => by have := M.le r hr x hx; omega
  have B := lay_fn rows W' (by have := M.n4; omega) fun r hr x hx => by have := M.le r hr x hx; omega
  have h := widens M (w := W) (w' := W') (by omega) (by omega) (by omega) rfl rfl
  generalize layR rows W = a at A h
  generalize layR rows W' = b at B h
  obtain ⟨aL, af, ae⟩ := a
  obtain ⟨bL, bf, be⟩ := b
  obtain ⟨h1, h2⟩ := h
  dsimp only at h1 h2
  refine fn_introX mixed (X := X6) c6 6 (by simp [X6]) fun Q hR hN => ?_
  simp [X6]
  refine call_of sanity_fn ?_
  simp
  refine call_of hM ?_
  simp [w1, w3, w4, w5, d1, d3, d4, d6, d7]
  refine call_of A ?_
  simp
  refine call_of B ?_
  by_cases e0 : ae = 0
  · obtain ⟨h3, h4, h5⟩ := h2 e0
    subst e0 h3
    simp [h4, h5]
    refine hR _ _ ?_
    simp [X6, h4, h5]
  · obtain ⟨h3, h4⟩ := h1 e0
    subst h3
    rcases h4 with rfl | rfl
    · simp
      refine hR _ _ ?_
      simp [X6]
    · simp
      refine hR _ _ ?_
      simp [X6]
theorem Rows_fn (cols most : Int) (l : List (List Int)) (w n : Int) (hc : 0 ≤ cols ∧ cols ≤ 255) (hm : 0 ≤ most ∧ most ≤ 255) (hl : ∀ x ∈ l, ∀ a ∈ x, 0 ≤ a ∧ a ≤ 255) (hw : 0 ≤ w ∧ w ≤ 255) (hn : 0 ≤ n ∧ n ≤ 255) :
    Am.Fn Try.prog 7 [0] [RawP cols most l, U w, U n] (.bool true) := by
  obtain ⟨rows, M, hM⟩ := Made_md cols most l hc hm hl
  obtain ⟨c, w1, w2, w3, w4⟩ := mod_ok hw 37 (by omega)
  have n1 := M.n1
  have n4 := M.n4
  obtain ⟨d, d1, d2, d3, d4⟩ := mod_ok hn (rows.length : Int) (by omega)
  obtain ⟨W, hW⟩ : ∃ W : Nat, W = 24 + c := ⟨_, rfl⟩
  have w5 : IntKind.i64.wrap (24 + (c : Int)) = (W : Int) := by rw [wrap_ok (by omega) (by omega)]; omega
  have d5 : IntKind.i64.wrap n = n := wrap_ok (by omega) (by omega)
  have d6 : IntKind.i64.wrap (1 + (d : Int)) = ((1 + d : Nat) : Int) := wrap_ok (by omega) (by omega)
  obtain ⟨k, hk⟩ : ∃ k : Nat, k = 1 + d := ⟨_, rfl⟩
  have hkl : k ≤ rows.length := by omega
  rw [← hk] at d6
  have A := lay_fn rows W (by have := M.n4; omega) fun r hr x hx => by have := M.le r hr x hx; omega
  have B := lay_fn (rows.take k) W (by rw [List.length_take]; omega) fun r hr x hx => by have := M.le r (List.mem_of_mem_take hr) x hx; omega
  have h := fun he => some_rows M (w := W) (k := k) (by omega) (by omega) (by omega) rfl rfl he
  have ho := lines M (w := W) (by omega) rfl
  have hs := lay_short M (w := W) (by omega)
  generalize layR rows W = a at A h ho hs
  generalize layR (rows.take k) W = b at B h
  have hc := fun (hb : b.L.length ≤ maxLen) hx => L.Same_fn b.L (a.L.take b.L.length) hb hx
  obtain ⟨aL, af, ae⟩ := a
  obtain ⟨bL, bf, be⟩ := b
  dsimp only at h ho hc hs
  refine fn_introX mixed (X := X7) c7 6 (by simp [X7]) fun Q hR hN => ?_
  simp [X7]
  refine call_of sanity_fn ?_
  simp
  refine call_of hM ?_
  simp [w1, w3, w4, w5]
  refine call_of A ?_
  by_cases e0 : ae = 0
  · obtain ⟨h1, h2, h3, h4⟩ := h e0
    subst e0 h1
    have n0 : ¬ rows = [] := List.length_pos_iff.1 (by omega)
    rw [show RWS (rows.take k) = .slc (List.take k (List.map RW rows)) by simp [List.map_take]] at B
    have t1 : ¬ af < bf := by omega
    have t2 : ¬ aL.length < bL.length := by omega
    have t3 : ¬ (aL.length : Int) < (bL.length : Int) := by omega
    simp [d1, d4, d5, d6, n0, hkl]
    refine call_of B ?_
    by_cases f1 : af = 1
    · subst f1
      simp [t1, t2, t3]
      refine hR _ _ ?_
      simp [X7]
    · by_cases f2 : bf = af
      · have hLe := h4 f1 f2
        have hcc := hc (by unfold maxLen; omega) fun x hx => by
          rw [hLe] at hx
          have := ((ho.2 rfl).2 x (List.mem_of_mem_take hx)).1
          unfold maxLen; omega
        rw [show (bL == aL.take bL.length) = true by rw [← hLe]; simp] at hcc
        rw [show CLL (aL.take bL.length) = .slc (List.take bL.length (List.map CL aL)) by simp [List.map_take]] at hcc
        simp [t1, t2, t3, f1, f2, h3]
        refine call_of hcc ?_
        simp
        refine hR _ _ ?_
        simp [X7]
      · simp [t1, t2, t3, f1, f2]
        refine hR _ _ ?_
        simp [X7]
  · simp [e0]
    refine hR _ _ ?_
    simp [X7]
end Go.Proofs.Ytfpkcjjgooigbaa.C
