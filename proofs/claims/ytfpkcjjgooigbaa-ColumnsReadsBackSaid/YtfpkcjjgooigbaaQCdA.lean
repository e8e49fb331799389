/-
  Chapter 20: even rows, blanks, the longest line, fitting lines.
-/
import Derived.Test.YtfpkcjjgooigbaaQCcA
namespace Go.Proofs.Ytfpkcjjgooigbaa.C
set_option linter.unusedSimpArgs false
set_option linter.unusedVariables false
set_option linter.unusedSectionVars false
open Go.Proofs.Ytfpkcjjgooigbaa.Am
open Go.Proofs.Ytfpkcjjgooigbaa.L (mixed wrap_ok I U CL CLL UCL Word clean words zeros)
set_option maxHeartbeats 8000000
abbrev RW (r : Row) : PV := .slc (r.map CL)
abbrev RWS (rows : List Row) : PV := .slc (rows.map RW)
/-- the rows in front of place k are as long as the first -/
def EvAt (rows : List Row) (k : Nat) : Prop := ∀ (j : Nat) (h : j < rows.length), j < k → rows[j].length = nc rows
theorem nc_eq {rows : List Row} (h : 0 < rows.length) : rows[0].length = nc rows := by
  unfold nc; rw [List.getD_eq_getElem?_getD, List.getElem?_eq_getElem h]; rfl
theorem even_iff (rows : List Row) : evenB rows = true ↔ (rows ≠ [] ∧ 1 ≤ nc rows ∧ nc rows ≤ 4 ∧ EvAt rows rows.length) := by
  unfold evenB EvAt
  simp only [Bool.and_eq_true, decide_eq_true_eq, List.all_eq_true]
  constructor
  · rintro ⟨⟨⟨h1, h2⟩, h3⟩, h4⟩
    exact ⟨h1, h2, h3, fun j hj _ => h4 _ (List.getElem_mem hj)⟩
  · rintro ⟨h1, h2, h3, h4⟩
    exact ⟨⟨⟨h1, h2⟩, h3⟩, fun r hr => by obtain ⟨j, hj, rfl⟩ := List.getElem_of_mem hr; exact h4 j hj hj⟩
theorem Even_fn (rows : List Row) (hl : rows.length ≤ 100000) : Am.Fn Try.prog 19 [0] [RWS rows] (.bool (evenB rows)) := by
  refine fn_introX mixed (X := X19) c19 0 (by simp [X19]) fun Q hR hN => ?_
  by_cases h0 : rows.length = 0
  · obtain rfl := List.length_eq_zero_iff.1 h0
    simp [X19]
    refine hR _ _ ?_
    simp [X19, evenB]
  · have hne : ¬ rows = [] := fun h => h0 (by rw [h]; rfl)
    have hp : 0 < rows.length := by omega
    have hc := nc_eq hp
    by_cases h1 : nc rows < 1
    · have : evenB rows = false := by rw [← Bool.not_eq_true, even_iff]; rintro ⟨_, h, _⟩; omega
      have h1' : nc rows = 0 := by omega
      simp [X19, hne, hp, hc, h1']
      refine hR _ _ ?_
      simp [X19, this]
    · have t1 : ¬ ((nc rows : Int) < 1) := by omega
      have t1' : ¬ nc rows = 0 := by omega
      by_cases h4 : 4 < nc rows
      · have t4 : (4 : Int) < nc rows := by omega
        have : evenB rows = false := by rw [← Bool.not_eq_true, even_iff]; rintro ⟨_, _, h, _⟩; omega
        simp [X19, hne, hp, hc, t1, t1', t4]
        refine hR _ _ ?_
        simp [X19, this]
      · have t4 : ¬ (4 : Int) < nc rows := by omega
        simp [X19, hne, hp, hc, t1, t1', t4]
        refine loopX (fun (k : Nat) vs h => k ≤ rows.length ∧ EvAt rows k ∧ vs = [RWS rows, .undef, I k, .undef, .undef, .undef] ∧ h = []) (fun k => rows.length - k) 0 ?_ ?_
        · simp
          intro j hj hj'; omega
        · rintro k vs h ⟨g1, g2, rfl, rfl⟩ Q' hK hX hR'
          by_cases hk : k < rows.length
          · have hw1 : IntKind.i64.wrap ((k : Int) + 1) = ((k + 1 : Nat) : Int) := wrap_ok (by omega) (by omega)
            by_cases he : rows[k].length = nc rows
            · have : EvAt rows (k + 1) := fun j hj hjk => by
                by_cases hjk' : j < k
                · exact g2 j hj hjk'
                · obtain rfl : j = k := by omega
                  exact he
              simp [hk, hp, hc, he, hw1]
              refine hK (k + 1) _ _ (by omega) ?_
              simp [this]; omega
            · have : evenB rows = false := by rw [← Bool.not_eq_true, even_iff]; rintro ⟨_, _, _, h⟩; exact he (h k hk hk)
              simp [hk, hp, hc, he]
              refine hR' _ _ ?_
              simp
              refine hR _ _ ?_
              simp [X19, this]
          · obtain rfl : k = rows.length := by omega
            have : evenB rows = true := (even_iff rows).2 ⟨hne, by omega, by omega, g2⟩
            simp
            refine hX _ _ _ ?_
            simp
            refine hR _ _ ?_
            simp [X19, this]
theorem even_fn (rows : List Row) (hl : rows.length ≤ 100000) : Am.Fn Try.prog 33 [0] [RWS rows] (.bool (evenB rows)) := by
  refine fn_introX mixed (X := X33) c33 0 (by simp [X33]) fun Q hR hN => ?_
  by_cases h0 : rows.length = 0
  · obtain rfl := List.length_eq_zero_iff.1 h0
    simp [X33]
    refine hR _ _ ?_
    simp [X33, evenB]
  · have hne : ¬ rows = [] := fun h => h0 (by rw [h]; rfl)
    have hp : 0 < rows.length := by omega
    have hc := nc_eq hp
    by_cases h1 : nc rows < 1
    · have : evenB rows = false := by rw [← Bool.not_eq_true, even_iff]; rintro ⟨_, h, _⟩; omega
      have h1' : nc rows = 0 := by omega
      simp [X33, hne, hp, hc, h1']
      refine hR _ _ ?_
      simp [X33, this]
    · have t1 : ¬ ((nc rows : Int) < 1) := by omega
      have t1' : ¬ nc rows = 0 := by omega
      by_cases h4 : 4 < nc rows
      · have t4 : (4 : Int) < nc rows := by omega
        have : evenB rows = false := by rw [← Bool.not_eq_true, even_iff]; rintro ⟨_, _, h, _⟩; omega
        simp [X33, hne, hp, hc, t1, t1', t4]
        refine hR _ _ ?_
        simp [X33, this]
      · have t4 : ¬ (4 : Int) < nc rows := by omega
        simp [X33, hne, hp, hc, t1, t1', t4]
        refine loopX (fun (k : Nat) vs h => k ≤ rows.length ∧ EvAt rows k ∧ vs = [RWS rows, .undef, .undef, .undef, RWS rows, I rows.length, I k, .undef, .undef] ∧ h = []) (fun k => rows.length - k) 0 ?_ ?_
        · simp
          intro j hj hj'; omega
        · rintro k vs h ⟨g1, g2, rfl, rfl⟩ Q' hK hX hR'
          by_cases hk : k < rows.length
          · have hw1 : IntKind.i64.wrap ((k : Int) + 1) = ((k + 1 : Nat) : Int) := wrap_ok (by omega) (by omega)
            by_cases he : rows[k].length = nc rows
            · have : EvAt rows (k + 1) := fun j hj hjk => by
                by_cases hjk' : j < k
                · exact g2 j hj hjk'
                · obtain rfl : j = k := by omega
                  exact he
              simp [hk, hp, hc, he, hw1]
              refine hK (k + 1) _ _ (by omega) ?_
              simp [this]; omega
            · have : evenB rows = false := by rw [← Bool.not_eq_true, even_iff]; rintro ⟨_, _, _, h⟩; exact he (h k hk hk)
              simp [hk, hp, hc, he]
              refine hR' _ _ ?_
              simp
              refine hR _ _ ?_
              simp [X33, this]
          · obtain rfl : k = rows.length := by omega
            have : evenB rows = true := (even_iff rows).2 ⟨hne, by omega, by omega, g2⟩
            simp
            refine hX _ _ _ ?_
            simp
            refine hR _ _ ?_
            simp [X33, this]
end Go.Proofs.Ytfpkcjjgooigbaa.C
