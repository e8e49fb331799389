/-
  Chapter 18's functions, for chapter 20: clean cells.
-/
import Derived.Test.YtfpkcjjgooigbaaQLcA
namespace Go.Proofs.Ytfpkcjjgooigbaa.L
set_option linter.unusedSimpArgs false
set_option linter.unusedVariables false
set_option linter.unusedSectionVars false
open Go.Proofs.Ytfpkcjjgooigbaa.Am
set_option maxHeartbeats 8000000
theorem cleanP_fn (l : Word) (hl : l.length ≤ maxLen) : Am.Fn Try.prog 35 [0, 0] [CL l] (.tup [I (clean l).1, .bool (clean l).2]) := by
  refine fn_introX mixed (X := X35) c35 0 (by simp [X35]) fun Q hR hN => ?_
  simp [X35]
  refine loopX (fun (k : Nat) vs h => k ≤ l.length ∧ clean l = cleanG k (decide (k = 0 ∨ l.getD (k - 1) 0 = 0)) (l.drop k) ∧ vs = [CL l, .undef, .undef, .undef, .undef, CL l, I l.length, I k, .undef, .undef, .undef, .undef] ∧ h = []) (fun k => l.length - k) 0 ?_ ?_
  · simp [clean]
  · rintro k vs h ⟨h1, h2, rfl, rfl⟩ Q hK hX hR'
    by_cases hk : k < l.length
    · have hw : IntKind.i64.wrap ((k : Int) + 1) = (k : Int) + 1 := wrap_ok (by omega) (by unfold maxLen at hl; omega)
      rw [List.drop_eq_getElem_cons hk, cleanG] at h2
      by_cases t1 : 63 < l[k]
      · have t1' : ¬ l[k] < 64 := by omega
        rw [if_pos (.inl t1)] at h2
        (simp [hk]; refine call_of (Valid_fn _) ?_; simp [hk, t1, t1'])
        refine hR' _ _ ?_
        simp
        refine hR _ _ ?_
        simp [X35, h2]
      · have t1' : l[k] < 64 := by omega
        by_cases t2 : l[k] = 0
        · by_cases t3 : k = 0
          · subst t3
            rw [if_pos (.inr ⟨t2, by simp⟩)] at h2
            (simp [hk]; refine call_of (Valid_fn _) ?_; simp [hk, t1, t1', t2])
            refine hR' _ _ ?_
            simp
            refine hR _ _ ?_
            simp [X35, h2]
          · have hw3 : IntKind.i64.wrap ((k : Int) - 1) = ((k - 1 : Nat) : Int) := by
              unfold maxLen at hl; rw [wrap_ok (by omega) (by omega)]; omega
            have hk1 : k - 1 < l.length := by omega
            have hg : l.getD (k - 1) 0 = l[k - 1] := by simp [List.getD, hk1]
            rw [hg] at h2
            by_cases t4 : l[k - 1] = 0
            · rw [if_pos (.inr ⟨t2, by simp [t4]⟩)] at h2
              (simp [hk]; refine call_of (Valid_fn _) ?_; simp [hk, hk1, t1, t1', t2, t3, t4, hw3])
              refine hR' _ _ ?_
              simp
              refine hR _ _ ?_
              simp [X35, h2]
            · rw [if_neg (by rintro (h | ⟨_, h⟩); exact t1 h; simp [t3, t4] at h)] at h2
              (simp [hk]; refine call_of (Valid_fn _) ?_; simp [hk, hk1, t1, t1', t2, t3, t4, hw3, hw])
              refine hK (k + 1) _ _ (by omega) ?_
              simp [List.getD, hk]
              exact ⟨by omega, h2⟩
        · rw [if_neg (by rintro (h | ⟨h, _⟩); exact t1 h; exact t2 h)] at h2
          (simp [hk]; refine call_of (Valid_fn _) ?_; simp [hk, t1, t1', t2, hw])
          refine hK (k + 1) _ _ (by omega) ?_
          simp [List.getD, hk]
          exact ⟨by omega, h2⟩
    · obtain rfl : k = l.length := by omega
      rw [List.drop_length, cleanG] at h2
      simp
      refine hX _ _ _ ?_
      by_cases h0 : l.length = 0
      · have : l = [] := List.length_eq_zero_iff.1 h0
        subst this
        simp
        refine hR _ _ ?_
        simp [X35, clean, cleanG]
      · have hw3 : IntKind.i64.wrap ((l.length : Int) - 1) = ((l.length - 1 : Nat) : Int) := by
          unfold maxLen at hl; rw [wrap_ok (by omega) (by omega)]; omega
        have hk1 : l.length - 1 < l.length := by omega
        have hg : l.getD (l.length - 1) 0 = l[l.length - 1] := by simp [List.getD, hk1]
        have hn0 : l ≠ [] := fun e => h0 (by simp [e])
        rw [hg, if_neg h0] at h2
        by_cases t4 : l[l.length - 1] = 0
        · rw [if_pos (by simp [t4])] at h2
          simp [h0, hn0, hw3, hk1, t4]
          refine hR _ _ ?_
          simp [X35, h2]; omega
        · rw [if_neg (by simp [t4, h0, hn0])] at h2
          simp [h0, hn0, hw3, hk1, t4]
          refine hR _ _ ?_
          simp [X35, h2]
theorem clean_fn (l : Word) (hl : l.length ≤ maxLen) : Am.Fn Try.prog 57 [0, 0] [CL l] (.tup [I (clean l).1, .bool (clean l).2]) := by
  refine fn_introX mixed (X := X57) c57 0 (by simp [X57]) fun Q hR hN => ?_
  simp [X57]
  refine loopX (fun (k : Nat) vs h => k ≤ l.length ∧ clean l = cleanG k (decide (k = 0 ∨ l.getD (k - 1) 0 = 0)) (l.drop k) ∧ vs = [CL l, .undef, .undef, I k, .undef, .undef, .undef, .undef] ∧ h = []) (fun k => l.length - k) 0 ?_ ?_
  · simp [clean]
  · rintro k vs h ⟨h1, h2, rfl, rfl⟩ Q hK hX hR'
    by_cases hk : k < l.length
    · have hw : IntKind.i64.wrap ((k : Int) + 1) = (k : Int) + 1 := wrap_ok (by omega) (by unfold maxLen at hl; omega)
      rw [List.drop_eq_getElem_cons hk, cleanG] at h2
      by_cases t1 : 63 < l[k]
      · have t1' : ¬ l[k] < 64 := by omega
        rw [if_pos (.inl t1)] at h2
        simp [hk, t1, t1']
        refine hR' _ _ ?_
        simp
        refine hR _ _ ?_
        simp [X57, h2]
      · have t1' : l[k] < 64 := by omega
        by_cases t2 : l[k] = 0
        · by_cases t3 : k = 0
          · subst t3
            rw [if_pos (.inr ⟨t2, by simp⟩)] at h2
            simp [hk, t1, t1', t2]
            refine hR' _ _ ?_
            simp
            refine hR _ _ ?_
            simp [X57, h2]
          · have hw3 : IntKind.i64.wrap ((k : Int) - 1) = ((k - 1 : Nat) : Int) := by
              unfold maxLen at hl; rw [wrap_ok (by omega) (by omega)]; omega
            have hk1 : k - 1 < l.length := by omega
            have hg : l.getD (k - 1) 0 = l[k - 1] := by simp [List.getD, hk1]
            rw [hg] at h2
            by_cases t4 : l[k - 1] = 0
            · rw [if_pos (.inr ⟨t2, by simp [t4]⟩)] at h2
              simp [hk, hk1, t1, t1', t2, t3, t4, hw3]
              refine hR' _ _ ?_
              simp
              refine hR _ _ ?_
              simp [X57, h2]
            · rw [if_neg (by rintro (h | ⟨_, h⟩); exact t1 h; simp [t3, t4] at h)] at h2
              simp [hk, hk1, t1, t1', t2, t3, t4, hw3, hw]
              refine hK (k + 1) _ _ (by omega) ?_
              simp [List.getD, hk]
              exact ⟨by omega, h2⟩
        · rw [if_neg (by rintro (h | ⟨h, _⟩); exact t1 h; exact t2 h)] at h2
          simp [hk, t1, t1', t2, hw]
          refine hK (k + 1) _ _ (by omega) ?_
          simp [List.getD, hk]
          exact ⟨by omega, h2⟩
    · obtain rfl : k = l.length := by omega
      rw [List.drop_length, cleanG] at h2
      simp
      refine hX _ _ _ ?_
      by_cases h0 : l.length = 0
      · have : l = [] := List.length_eq_zero_iff.1 h0
        subst this
        simp
        refine hR _ _ ?_
        simp [X57, clean, cleanG]
      · have hw3 : IntKind.i64.wrap ((l.length : Int) - 1) = ((l.length - 1 : Nat) : Int) := by
          unfold maxLen at hl; rw [wrap_ok (by omega) (by omega)]; omega
        have hk1 : l.length - 1 < l.length := by omega
        have hg : l.getD (l.length - 1) 0 = l[l.length - 1] := by simp [List.getD, hk1]
        have hn0 : l ≠ [] := fun e => h0 (by simp [e])
        rw [hg, if_neg h0] at h2
        by_cases t4 : l[l.length - 1] = 0
        · rw [if_pos (by simp [t4])] at h2
          simp [h0, hn0, hw3, hk1, t4]
          refine hR _ _ ?_
          simp [X57, h2]; omega
        · rw [if_neg (by simp [t4, h0, hn0])] at h2
          simp [h0, hn0, hw3, hk1, t4]
          refine hR _ _ ?_
          simp [X57, h2]
theorem blanks_fn (n : Nat) (hn : n ≤ 1000) : Am.Fn Try.prog 55 [1] [I n] (.uslc ((zeros n).map U)) := by
  refine fn_introX mixed (X := X55) c55 1 (by simp [X55]) fun Q hR hN => ?_
  have b1 : (n : Int) ≤ 140737488355328 := by omega
  have b2 : (n : Int) ≤ 9223372036854775807 := by omega
  simp [X55, b1, b2]
  refine hR _ _ ?_
  simp [X55]
theorem allowed_fn (i0 i1 : Int) : Am.Fn Try.prog 53 [0] [.agg [I i0, I i1]] (.bool (okI i0 i1)) := by
  refine fn_introX mixed (X := X53) c53 1 (by simp [X53]) fun Q hR hN => ?_
  simp [X53]
  refine loopX (fun (k : Nat) vs h => k ≤ 2 ∧ (1 ≤ k → 0 ≤ i0 ∧ i0 ≤ 16) ∧ (2 ≤ k → 0 ≤ i1 ∧ i1 ≤ 16) ∧ vs = [.undef, .undef, .undef, .undef, .agg [I i0, I i1], I k, .undef, .undef] ∧ h = [(0, .dead)]) (fun k => 2 - k) 0 ?_ ?_
  · simp
  · rintro k vs h ⟨h1, h2, h3, rfl, rfl⟩ Q hK hX hR'
    match k, h1, h2, h3 with
    | 0, _, _, _ =>
      by_cases t1 : i0 < 0
      · simp [t1]
        refine hR' _ _ ?_
        simp
        refine hR _ _ ?_
        simp [X53, okI]; intros; omega
      · by_cases t2 : 16 < i0
        · simp [t1, t2]
          refine hR' _ _ ?_
          simp
          refine hR _ _ ?_
          simp [X53, okI]; intros; omega
        · have hw : IntKind.i64.wrap 1 = 1 := by decide
          simp [t1, t2, hw]
          refine hK 1 _ _ (by omega) ?_
          simp; omega
    | 1, _, h2, _ =>
      have := h2 (by omega)
      by_cases t1 : i1 < 0
      · simp [t1]
        refine hR' _ _ ?_
        simp
        refine hR _ _ ?_
        simp [X53, okI]; intros; omega
      · by_cases t2 : 16 < i1
        · simp [t1, t2]
          refine hR' _ _ ?_
          simp
          refine hR _ _ ?_
          simp [X53, okI]; intros; omega
        · have hw : IntKind.i64.wrap 2 = 2 := by decide
          simp [t1, t2, hw]
          refine hK 2 _ _ (by omega) ?_
          simp; omega
    | 2, _, h2, h3 =>
      have := h2 (by omega)
      have := h3 (by omega)
      simp
      refine hX _ _ _ ?_
      simp
      refine hR _ _ ?_
      simp [X53, okI]; omega
end Go.Proofs.Ytfpkcjjgooigbaa.L
