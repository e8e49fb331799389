/-
  Chapter 27: points and grids.
-/
import Derived.Test.YtgdcogoacnghkaaQNfA
namespace Go.Proofs.Ytgdcogoacnghkaa.N
set_option linter.unusedSimpArgs false
set_option linter.unusedVariables false
set_option linter.unusedSectionVars false
open Go.Proofs.Ytgdcogoacnghkaa.Am
set_option maxHeartbeats 2000000
abbrev GR (w h : Int) (d : List (List Bool)) : PV := .agg [I w, I h, DT d]
abbrev PT (x y : Int) : PV := .agg [I x, I y]
theorem On_fn (w h x y : Int) (d : List (List Bool)) : Am.Fn Try.prog 46 [0] [GR w h d, PT x y] (.bool (decide (0 ≤ x ∧ x < w ∧ 0 ≤ y ∧ y < h))) := by
  refine fn_introX mixed (X := X46) c46 2 (by simp [X46]) fun Q hR hN => ?_
  by_cases t1 : 0 ≤ x
  · by_cases t2 : x < w
    · by_cases t3 : 0 ≤ y
      · by_cases t4 : y < h <;> (simp [X46, t1, t2, t3, t4]; refine hR _ _ ?_; simp [X46, t1, t2, t3, t4])
      · simp [X46, t1, t2, t3]; refine hR _ _ ?_; simp [X46, t1, t2, t3]
    · simp [X46, t1, t2]; refine hR _ _ ?_; simp [X46, t1, t2]
  · simp [X46, t1]; refine hR _ _ ?_; simp [X46, t1]
theorem Before_fn (x y x' y' : Int) : Am.Fn Try.prog 28 [0] [PT x y, PT x' y'] (.bool (decide (y < y' ∨ y = y' ∧ x < x'))) := by
  refine fn_introX mixed (X := X28) c28 2 (by simp [X28]) fun Q hR hN => ?_
  by_cases t1 : y < y'
  · simp [X28, t1]; refine hR _ _ ?_; simp [X28, t1]
  · by_cases t2 : y = y'
    · by_cases t3 : x < x' <;> (simp [X28, t1, t2, t3]; refine hR _ _ ?_; simp [X28, t2, t3])
    · simp [X28, t1, t2]; refine hR _ _ ?_; simp [X28, t1, t2]
theorem GSame_fn (w h w' h' : Int) (a b : List (List Bool)) (ha : Rws a) : Am.Fn Try.prog 39 [0] [GR w h a, GR w' h' b] (.bool (decide (w = w' ∧ h = h' ∧ a = b))) := by
  have ha1 := ha.1
  refine fn_introX mixed (X := X39) c39 4 (by simp [X39]) fun Q hR hN => ?_
  by_cases e1 : w = w'
  case neg => simp [X39, e1]; refine hR _ _ ?_; simp [X39, e1]
  by_cases e2 : h = h'
  case neg => simp [X39, e1, e2]; refine hR _ _ ?_; simp [X39, e1, e2]
  by_cases he : a.length = b.length
  case neg => simp [X39, e1, e2, he]; refine hR _ _ ?_; simp [X39, e1, e2]; rintro rfl; exact he rfl
  subst e1 e2
  simp [X39, he]
  refine loopX (fun (k : Nat) vs hh => k ≤ a.length ∧ a.take k = b.take k ∧ vs = [.undef, .undef, .ptr 2 1 0, .ptr 3 1 0, .undef, I k, .undef, .undef, .undef, .undef, .undef, .undef] ∧ hh = [dd, dd, (1, .var [I w, I h, DT a]), (1, .var [I w, I h, DT b])]) (fun k => a.length - k) 0 ?_ ?_
  · simp
  · rintro k vs hh ⟨h1, h2, rfl, rfl⟩ Q' hK hX hR'
    by_cases hk : k < a.length
    · have hk' : k < b.length := he ▸ hk
      have hw : IntKind.i64.wrap ((k : Int) + 1) = ((k + 1 : Nat) : Int) := wrap_ok (by omega) (by omega)
      have q1 := ha.2 _ (List.getElem_mem hk)
      by_cases hl : a[k].length = b[k].length
      · simp [hk, hk', hl]
        refine loopX (fun (j : Nat) vs hh => j ≤ a[k].length ∧ a[k].take j = b[k].take j ∧ vs = [.undef, .undef, .ptr 2 1 0, .ptr 3 1 0, .undef, I k, I j, .undef, .undef, .undef, .undef, .undef] ∧ hh = [dd, dd, (1, .var [I w, I h, DT a]), (1, .var [I w, I h, DT b])]) (fun j => a[k].length - j) 0 ?_ ?_
        · simp
        · rintro j vs hh ⟨g1, g2, rfl, rfl⟩ Q2 hK2 hX2 hR2
          by_cases hj : j < a[k].length
          · have hj' : j < b[k].length := hl ▸ hj
            have hw2 : IntKind.i64.wrap ((j : Int) + 1) = ((j + 1 : Nat) : Int) := wrap_ok (by omega) (by omega)
            by_cases hxy : a[k][j] = b[k][j]
            · simp [hk, hk', hj, hj', hxy, hw2]
              refine hK2 (j + 1) _ _ (by omega) ?_
              simp
              exact ⟨by omega, take_eq g2 hj hj' hxy⟩
            · simp [hk, hk', hj, hj', hxy]
              refine hR2 _ _ ?_
              simp
              refine hR' _ _ ?_
              simp
              refine hR _ _ ?_
              simp [X39]
              rintro rfl; exact hxy rfl
          · simp [hk, hj]
            refine hX2 _ _ _ ?_
            simp [hw]
            refine hK (k + 1) _ _ (by omega) ?_
            simp
            exact ⟨by omega, take_eq h2 hk hk' (all_eq g2 (by omega) hl)⟩
      · simp [hk, hk', hl]
        refine hR' _ _ ?_
        simp
        refine hR _ _ ?_
        simp [X39]
        rintro rfl; exact hl rfl
    · simp [hk]
      refine hX _ _ _ ?_
      simp
      refine hR _ _ ?_
      simp [X39, all_eq h2 (by omega) he]
end Go.Proofs.Ytgdcogoacnghkaa.N
