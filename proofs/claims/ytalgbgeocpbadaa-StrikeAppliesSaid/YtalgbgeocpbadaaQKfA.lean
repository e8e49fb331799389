/-
  Chapter 26: lists, plates, results compared.
-/
import Derived.Test.YtalgbgeocpbadaaQKeA
namespace Go.Proofs.Ytalgbgeocpbadaa.K
set_option linter.unusedSimpArgs false
set_option linter.unusedVariables false
set_option linter.unusedSectionVars false
open Go.Proofs.Ytalgbgeocpbadaa.Am
set_option maxHeartbeats 2000000
theorem take_eq {α : Type} {a b : List α} {k : Nat} (h : a.take k = b.take k) (h1 : k < a.length) (h2 : k < b.length) (e : a[k] = b[k]) : a.take (k + 1) = b.take (k + 1) := by
  rw [take_snoc h1, take_snoc h2, h, e]
theorem all_eq {α : Type} {a b : List α} {k : Nat} (h : a.take k = b.take k) (h1 : a.length ≤ k) (h2 : a.length = b.length) : a = b := by
  rwa [List.take_of_length_le h1, List.take_of_length_le (by omega)] at h
theorem Nums_fn (a b : List Int) (ha : a.length ≤ 100000) : Am.Fn Try.prog 28 [0] [IL a, IL b] (.bool (decide (a = b))) := by
  refine fn_introX mixed (X := X28) c28 0 (by simp [X28]) fun Q hR hN => ?_
  by_cases he : a.length = b.length
  · simp [X28, he]
    refine loopX (fun (k : Nat) vs h => k ≤ a.length ∧ a.take k = b.take k ∧ vs = [IL a, IL b, .undef, I k, .undef, .undef, .undef] ∧ h = []) (fun k => a.length - k) 0 ?_ ?_
    · simp
    · rintro k vs h ⟨h1, h2, rfl, rfl⟩ Q' hK hX hR'
      by_cases hk : k < a.length
      · have hk' : k < b.length := he ▸ hk
        have hw : IntKind.i64.wrap ((k : Int) + 1) = ((k + 1 : Nat) : Int) := wrap_ok (by omega) (by omega)
        by_cases hxy : a[k] = b[k]
        · simp [hk, hk', hxy, hw]
          refine hK (k + 1) _ _ (by omega) ?_
          simp
          exact ⟨by omega, take_eq h2 hk hk' hxy⟩
        · simp [hk, hk', hxy]
          refine hR' _ _ ?_
          simp
          refine hR _ _ ?_
          simp [X28]
          rintro rfl; exact hxy rfl
      · simp [hk]
        refine hX _ _ _ ?_
        simp
        refine hR _ _ ?_
        simp [X28]
        exact all_eq h2 (by omega) he
  · simp [X28, he]
    refine hR _ _ ?_
    simp [X28]
    rintro rfl; exact he rfl
/-- lists of strikes that are short -/
def Sks (l : List Stk) : Prop := l.length ≤ 100000 ∧ ∀ s ∈ l, s.up.length ≤ 100000 ∧ s.down.length ≤ 100000
theorem stk_ext {s t : Stk} (h1 : s.row = t.row) (h2 : s.up = t.up) (h3 : s.down = t.down) : s = t := by cases s; cases t; simp_all
theorem Same_fn (a b : List Stk) (ha : Sks a) : Am.Fn Try.prog 12 [0] [.slc (a.map stC), .slc (b.map stC)] (.bool (decide (a = b))) := by
  have ha1 := ha.1
  refine fn_introX mixed (X := X12) c12 0 (by simp [X12]) fun Q hR hN => ?_
  by_cases he : a.length = b.length
  · simp [X12, he]
    refine loopX (fun (k : Nat) vs h => k ≤ a.length ∧ a.take k = b.take k ∧ vs = [.slc (a.map stC), .slc (b.map stC), .undef, I k, .undef, .undef, .undef] ∧ h = []) (fun k => a.length - k) 0 ?_ ?_
    · simp
    · rintro k vs h ⟨h1, h2, rfl, rfl⟩ Q' hK hX hR'
      by_cases hk : k < a.length
      · have hk' : k < b.length := he ▸ hk
        have hw : IntKind.i64.wrap ((k : Int) + 1) = ((k + 1 : Nat) : Int) := wrap_ok (by omega) (by omega)
        obtain ⟨q1, q2⟩ := ha.2 _ (List.getElem_mem hk)
        by_cases t1 : a[k].row = b[k].row
        · simp [hk, hk', t1]
          refine call_of (Nums_fn a[k].up b[k].up q1) ?_
          by_cases t2 : a[k].up = b[k].up
          · simp [t2, hk, hk']
            refine call_of (Nums_fn a[k].down b[k].down q2) ?_
            by_cases t3 : a[k].down = b[k].down
            · simp [t3, hw]
              refine hK (k + 1) _ _ (by omega) ?_
              simp
              exact ⟨by omega, take_eq h2 hk hk' (stk_ext t1 t2 t3)⟩
            · simp [t3]
              refine hR' _ _ ?_
              simp
              refine hR _ _ ?_
              simp [X12]
              rintro rfl; exact t3 rfl
          · simp [t2]
            refine hR' _ _ ?_
            simp
            refine hR _ _ ?_
            simp [X12]
            rintro rfl; exact t2 rfl
        · simp [hk, hk', t1]
          refine hR' _ _ ?_
          simp
          refine hR _ _ ?_
          simp [X12]
          rintro rfl; exact t1 rfl
      · simp [hk]
        refine hX _ _ _ ?_
        simp
        refine hR _ _ ?_
        simp [X12]
        exact all_eq h2 (by omega) he
  · simp [X12, he]
    refine hR _ _ ?_
    simp [X12]
    rintro rfl; exact he rfl
/-- rows that are short -/
def Rws (d : List (List Bool)) : Prop := d.length ≤ 100000 ∧ ∀ r ∈ d, r.length ≤ 100000
theorem Rows_fn (a b : List (List Bool)) (ha : Rws a) : Am.Fn Try.prog 34 [0] [DT a, DT b] (.bool (decide (a = b))) := by
  have ha1 := ha.1
  refine fn_introX mixed (X := X34) c34 0 (by simp [X34]) fun Q hR hN => ?_
  by_cases he : a.length = b.length
  · simp [X34, he]
    refine loopX (fun (k : Nat) vs h => k ≤ a.length ∧ a.take k = b.take k ∧ vs = [DT a, DT b, .undef, I k, .undef, .undef, .undef, .undef, .undef, .undef] ∧ h = []) (fun k => a.length - k) 0 ?_ ?_
    · simp
    · rintro k vs h ⟨h1, h2, rfl, rfl⟩ Q' hK hX hR'
      by_cases hk : k < a.length
      · have hk' : k < b.length := he ▸ hk
        have hw : IntKind.i64.wrap ((k : Int) + 1) = ((k + 1 : Nat) : Int) := wrap_ok (by omega) (by omega)
        have q1 := ha.2 _ (List.getElem_mem hk)
        by_cases hl : a[k].length = b[k].length
        · simp [hk, hk', hl]
          refine loopX (fun (j : Nat) vs h => j ≤ a[k].length ∧ a[k].take j = b[k].take j ∧ vs = [DT a, DT b, .undef, I k, I j, .undef, .undef, .undef, .undef, .undef] ∧ h = []) (fun j => a[k].length - j) 0 ?_ ?_
          · simp
          · rintro j vs h ⟨g1, g2, rfl, rfl⟩ Q2 hK2 hX2 hR2
            by_cases hj : j < a[k].length
            · have hj' : j < b[k].length := hl ▸ hj
              have hw2 : IntKind.i64.wrap ((j : Int) + 1) = ((j + 1 : Nat) : Int) := wrap_ok (by omega) (by omega)
              by_cases hxy : a[k][j] = b[k][j]
              · simp [hk, hk', hj, hj', hxy, hw2]
                refine hK2 (j + 1) _ _ (by omega) ?_
                simp
                exact ⟨by omega, take_eq g2 hj hj' hxy⟩
              · simp [hk, hk', hj, hj', hxy]
                refine hR2 _ _ ?_
                simp
                refine hR' _ _ ?_
                simp
                refine hR _ _ ?_
                simp [X34]
                rintro rfl; exact hxy rfl
            · simp [hk, hj]
              refine hX2 _ _ _ ?_
              simp [hw]
              refine hK (k + 1) _ _ (by omega) ?_
              simp
              exact ⟨by omega, take_eq h2 hk hk' (all_eq g2 (by omega) hl)⟩
        · simp [hk, hk', hl]
          refine hR' _ _ ?_
          simp
          refine hR _ _ ?_
          simp [X34]
          rintro rfl; exact hl rfl
      · simp [hk]
        refine hX _ _ _ ?_
        simp
        refine hR _ _ ?_
        simp [X34]
        exact all_eq h2 (by omega) he
  · simp [X34, he]
    refine hR _ _ ?_
    simp [X34]
    rintro rfl; exact he rfl
theorem SamePlate_fn (w h w' h' : Int) (u d u' d' : List (List Bool)) (hu : Rws u) (hd : Rws d) : Am.Fn Try.prog 23 [0] [PC w h u d, PC w' h' u' d'] (.bool (decide (w = w' ∧ h = h' ∧ u = u' ∧ d = d'))) := by
  refine fn_introX mixed (X := X23) c23 2 (by simp [X23]) fun Q hR hN => ?_
  by_cases h1 : w = w'
  · by_cases h2 : h = h'
    · simp [X23, h1, h2]
      refine call_of (Rows_fn u u' hu) ?_
      by_cases h3 : u = u'
      · simp [h3]
        refine call_of (Rows_fn d d' hd) ?_
        simp
        refine hR _ _ ?_
        simp [X23, h1, h2, h3]
      · simp [h3]
        refine hR _ _ ?_
        simp [X23, h1, h2, h3]
    · simp [X23, h1, h2]
      refine hR _ _ ?_
      simp [X23, h1, h2]
  · simp [X23, h1]
    refine hR _ _ ?_
    simp [X23, h1]
/-- results -/
abbrev RC (w h : Int) (u d : List (List Bool)) (n e : Int) : PV := .agg [I w, I h, DT u, DT d, I n, I e]
theorem SameResult_fn (w h w' h' n e n' e' : Int) (u d u' d' : List (List Bool)) (hu : Rws u) (hd : Rws d) : Am.Fn Try.prog 15 [0] [RC w h u d n e, RC w' h' u' d' n' e'] (.bool (decide (n = n' ∧ e = e' ∧ w = w' ∧ h = h' ∧ u = u' ∧ d = d'))) := by
  refine fn_introX mixed (X := X15) c15 2 (by simp [X15]) fun Q hR hN => ?_
  by_cases h1 : n = n'
  · by_cases h2 : e = e'
    · simp [X15, h1, h2]
      refine call_of (SamePlate_fn w h w' h' u d u' d' hu hd) ?_
      simp
      refine hR _ _ ?_
      simp [X15, h1, h2]
    · simp [X15, h1, h2]
      refine hR _ _ ?_
      simp [X15, h1, h2]
  · simp [X15, h1]
    refine hR _ _ ?_
    simp [X15, h1]
end Go.Proofs.Ytalgbgeocpbadaa.K
