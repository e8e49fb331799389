/-
  Chapter 30: rows, grids, plates compared.
-/
import Derived.Test.YteafgpjhgefiiaaSbX
import Derived.Test.YteafgpjhgefiiaaSaP
import Derived.Test.YteafgpjhgefiiaaAmZb
namespace Go.Proofs.Yteafgpjhgefiiaa.S
set_option linter.unusedSimpArgs false
set_option linter.unusedVariables false
set_option linter.unusedSectionVars false
open Go.Proofs.Yteafgpjhgefiiaa.Am
theorem wrap_ok {n : Int} (h1 : -9223372036854775808 ≤ n) (h2 : n ≤ 9223372036854775807) : IntKind.i64.wrap n = n := by
  simp [IntKind.wrap, IntKind.signed, IntKind.bits]
  omega
abbrev I (n : Int) : PV := .int .i64 n
abbrev RW (r : List Bool) : PV := .slc (r.map .bool)
abbrev DT (d : List (List Bool)) : PV := .slc (d.map RW)
theorem SlEq_fn (a b : List Bool) (ha : a.length ≤ maxLen) : Am.Fn Try.prog 38 [0] [RW a, RW b] (.bool (decide (a = b))) := by
  refine fn_introX mixed (X := X38) c38 0 (by simp [X38]) fun Q hR hN => ?_
  by_cases he : a.length = b.length
  · simp [X38, he]
    refine loopX (fun (k : Nat) vs h => k ≤ a.length ∧ a.take k = b.take k ∧ vs = [RW a, RW b, .undef, .undef, .undef, I b.length, I k, .undef, .undef] ∧ h = []) (fun k => a.length - k) 0 ?_ ?_
    · simp
    · rintro k vs h ⟨h1, h2, rfl, rfl⟩ Q hK hX hR'
      by_cases hk : k < a.length
      · have hk' : k < b.length := he ▸ hk
        by_cases hxy : a[k] = b[k]
        · have hw : IntKind.i64.wrap ((k : Int) + 1) = ((k + 1 : Nat) : Int) := wrap_ok (by omega) (by unfold maxLen at ha; omega)
          simp [hk, hk', hxy, hw]
          refine hK (k + 1) _ _ (by omega) ?_
          simp
          exact ⟨by omega, by rw [List.take_succ_eq_append_getElem hk, List.take_succ_eq_append_getElem hk', h2, hxy]⟩
        · simp [hk, hk', hxy]
          refine hR' _ _ ?_
          simp
          refine hR _ _ ?_
          simp [X38]
          rintro rfl; exact hxy rfl
      · simp [show ¬ k < b.length by omega]
        refine hX _ _ _ ?_
        simp
        refine hR _ _ ?_
        simp [X38]
        have := List.take_of_length_le (l := a) (i := k) (by omega)
        have h3 := List.take_of_length_le (l := b) (i := k) (by omega)
        rw [this, h3] at h2
        exact h2
  · simp [X38, he]
    refine hR _ _ ?_
    simp [X38]
    rintro rfl; exact he rfl
theorem same1_fi (h : Heap) (a b : List Bool) (ha : a.length ≤ maxLen) : FI Try.prog (.fn (.func 37) [] []) [RW a, RW b] h (.bool (decide (a = b))) [] := by
  refine fn_introXI mixed (X := X37) c37 (by simp [X37]) (by simp) fun Q hR hN => ?_
  simp [X37]
  refine call_of (SlEq_fn a b ha) ?_
  simp
  refine hR _ _ ?_
  simp [X37, finI]
theorem eqf_fi (h : Heap) (a b : List (List Bool)) (ha : a.length ≤ maxLen) (hr : ∀ r ∈ a, r.length ≤ maxLen) : FI Try.prog (.fn (.func 36) [] []) [DT a, DT b, .fn (.func 37) [] []] h (.bool (decide (a = b))) [] := by
  refine fn_introXI mixed (X := X36) c36 (by simp [X36]) (by simp) fun Q hR hN => ?_
  by_cases he : a.length = b.length
  · simp [X36, he]
    refine loopR (fun (k : Nat) vs h' => k ≤ a.length ∧ a.take k = b.take k ∧ h' = h ∧ ∃ x y z u t, vs = [DT a, DT b, .fn (.func 37) [] [], .bool false, x, y, z, .bool false, DT a, I b.length, I k, u, t]) (fun k => a.length - k) 0 ?_ ?_
    · simp
    · rintro k vs h' ⟨h1, h2, rfl, x, y, z, u, t, rfl⟩ Q hK hX hR'
      by_cases hk : k < a.length
      · have hk' : k < b.length := he ▸ hk
        have hw : IntKind.i64.wrap ((k : Int) + 1) = ((k + 1 : Nat) : Int) := wrap_ok (by omega) (by unfold maxLen at ha; omega)
        simp [hk, hk']
        refine callv_of (same1_fi h' a[k] b[k] (hr _ (List.getElem_mem hk))) ?_
        by_cases hxy : a[k] = b[k]
        · simp [hxy, hw]
          refine hK (k + 1) _ _ (by omega) ?_
          simp
          exact ⟨by omega, by rw [List.take_succ_eq_append_getElem hk, List.take_succ_eq_append_getElem hk', h2, hxy]⟩
        · simp [hxy]
          refine hR' _ _ ?_
          simp
          refine hR _ _ ?_
          simp [X36, finI]
          rintro rfl; exact hxy rfl
      · simp [show ¬ k < b.length by omega]
        refine hX _ _ _ ?_
        simp
        refine hR _ _ ?_
        simp [X36, finI]
        have := List.take_of_length_le (l := a) (i := k) (by omega)
        have h3 := List.take_of_length_le (l := b) (i := k) (by omega)
        rw [this, h3] at h2
        exact h2
  · simp [X36, he]
    refine hR _ _ ?_
    simp [X36, finI]
    rintro rfl; exact he rfl
/-- rows that are short -/
structure Ok (d : List (List Bool)) : Prop where
  n : d.length ≤ maxLen
  r : ∀ r ∈ d, r.length ≤ maxLen
theorem sameDots_fn {a : List (List Bool)} (b : List (List Bool)) (ha : Ok a) : Am.Fn Try.prog 33 [0] [DT a, DT b] (.bool (decide (a = b))) := by
  refine fn_introX mixed (X := X33) c33 0 (by simp [X33]) fun Q hR hN => ?_
  simp [X33]
  refine callv_of (eqf_fi _ a b ha.n ha.r) ?_
  simp
  refine hR _ _ ?_
  simp [X33]
abbrev PC (w h : Int) (u d : List (List Bool)) : PV := .agg [I w, I h, DT u, DT d]
theorem Equal_fn {w h w' h' : Int} {u d : List (List Bool)} (u' d' : List (List Bool)) (hu : Ok u) (hd : Ok d) : Am.Fn Try.prog 26 [0] [PC w h u d, PC w' h' u' d'] (.bool (decide (w = w' ∧ h = h' ∧ u = u' ∧ d = d'))) := by
  refine fn_introX mixed (X := X26) c26 2 (by simp [X26]) fun Q hR hN => ?_
  by_cases h1 : w = w'
  · by_cases h2 : h = h'
    · simp [X26, h1, h2]
      refine call_of (sameDots_fn u' hu) ?_
      by_cases h3 : u = u'
      · simp [h3]
        refine call_of (sameDots_fn d' hd) ?_
        simp
        refine hR _ _ ?_
        simp [X26, h1, h2, h3]
      · simp [h3]
        refine hR _ _ ?_
        simp [X26, h1, h2, h3]
    · simp [X26, h1, h2]
      refine hR _ _ ?_
      simp [X26, h1, h2]
  · simp [X26, h1]
    refine hR _ _ ?_
    simp [X26, h1]
abbrev GR (w h : Int) (d : List (List Bool)) : PV := .agg [I w, I h, DT d]
theorem GSame_fn {w h w' h' : Int} {u : List (List Bool)} (u' : List (List Bool)) (hu : Ok u) : Am.Fn Try.prog 34 [0] [GR w h u, GR w' h' u'] (.bool (decide (w = w' ∧ h = h' ∧ u = u'))) := by
  refine fn_introX mixed (X := X34) c34 4 (by simp [X34]) fun Q hR hN => ?_
  by_cases e1 : w = w'
  · subst e1
    by_cases e2 : h = h'
    · subst e2
      by_cases e3 : u.length = u'.length
      · simp [X34, e3]
        have hun := hu.n
        refine loopX (fun (y : Nat) vs hp => y ≤ u.length ∧ u.take y = u'.take y ∧ vs = [.undef, .undef, .ptr 2 1 0, .ptr 3 1 0, .undef, I y, .undef, .undef, .undef, .undef, .undef, .undef] ∧ hp = [(0, .dead), (0, .dead), (1, .var [I w, I h, DT u]), (1, .var [I w, I h, DT u'])]) (fun y => u.length - y) 0 ?_ ?_
        · simp
        · rintro y vs hp ⟨h1, h2, rfl, rfl⟩ Q hK hX hR'
          by_cases hy : y < u.length
          · have hy' : y < u'.length := e3 ▸ hy
            have hw : IntKind.i64.wrap ((y : Int) + 1) = ((y + 1 : Nat) : Int) := wrap_ok (by omega) (by unfold maxLen at hun; omega)
            have hrn := hu.r _ (List.getElem_mem hy)
            by_cases hl : u[y].length = u'[y].length
            · simp [hy, hy', hl, e3]
              refine loopX (fun (x : Nat) vs hp => x ≤ u[y].length ∧ u[y].take x = u'[y].take x ∧ vs = [.undef, .undef, .ptr 2 1 0, .ptr 3 1 0, .undef, I y, I x, .undef, .undef, .undef, .undef, .undef] ∧ hp = [(0, .dead), (0, .dead), (1, .var [I w, I h, DT u]), (1, .var [I w, I h, DT u'])]) (fun x => u[y].length - x) 0 ?_ ?_
              · simp
              · rintro x vs hp ⟨g1, g2, rfl, rfl⟩ Q hK2 hX2 hR2
                by_cases hx : x < u[y].length
                · have hx' : x < u'[y].length := hl ▸ hx
                  have hw2 : IntKind.i64.wrap ((x : Int) + 1) = ((x + 1 : Nat) : Int) := wrap_ok (by omega) (by unfold maxLen at hrn; omega)
                  by_cases hxy : u[y][x] = u'[y][x]
                  · simp [hy, hy', hx, hx', hxy, hw2]
                    refine hK2 (x + 1) _ _ (by omega) ?_
                    simp
                    exact ⟨by omega, by rw [List.take_succ_eq_append_getElem hx, List.take_succ_eq_append_getElem hx', g2, hxy]⟩
                  · simp [hy, hy', hx, hx', hxy]
                    refine hR2 _ _ ?_
                    simp
                    refine hR' _ _ ?_
                    simp
                    refine hR _ _ ?_
                    simp [X34]
                    rintro rfl; exact hxy rfl
                · simp [hy, hy', hx]
                  refine hX2 _ _ _ ?_
                  simp [hw]
                  refine hK (y + 1) _ _ (by omega) ?_
                  simp
                  have q1 := List.take_of_length_le (l := u[y]) (i := x) (by omega)
                  have q2 := List.take_of_length_le (l := u'[y]) (i := x) (by omega)
                  rw [q1, q2] at g2
                  exact ⟨by omega, by rw [List.take_succ_eq_append_getElem hy, List.take_succ_eq_append_getElem hy', h2, g2]⟩
            · simp [hy, hy', hl, e3]
              refine hR' _ _ ?_
              simp
              refine hR _ _ ?_
              simp [X34]
              rintro rfl; exact hl rfl
          · simp [hy, e3, show ¬ y < u'.length by omega]
            refine hX _ _ _ ?_
            simp
            refine hR _ _ ?_
            simp [X34]
            have q1 := List.take_of_length_le (l := u) (i := y) (by omega)
            have q2 := List.take_of_length_le (l := u') (i := y) (by omega)
            rw [q1, q2] at h2
            exact h2
      · simp [X34, e3]
        refine hR _ _ ?_
        simp [X34]
        rintro rfl; exact e3 rfl
    · simp [X34, e2]
      refine hR _ _ ?_
      simp [X34, e2]
  · simp [X34, e1]
    refine hR _ _ ?_
    simp [X34, e1]
theorem REqual_fn {w h w' h' : Int} {u d : List (List Bool)} (u' d' : List (List Bool)) (hu : Ok u) (hd : Ok d) : Am.Fn Try.prog 28 [0] [PC w h u d, PC w' h' u' d'] (.bool (decide (w = w' ∧ h = h' ∧ u = u' ∧ d = d'))) := by
  refine fn_introX mixed (X := X28) c28 4 (by simp [X28]) fun Q hR hN => ?_
  simp [X28]
  refine call_of (GSame_fn u' hu) ?_
  simp
  refine call_of (GSame_fn d' hd) ?_
  simp
  by_cases e1 : w = w' ∧ h = h' ∧ u = u'
  · obtain ⟨rfl, rfl, rfl⟩ := e1
    simp
    refine hR _ _ ?_
    simp [X28]
  · have hb : (decide (w = w') && (decide (h = h') && decide (u = u'))) = false := by
      rw [← Bool.not_eq_true]; simpa using e1
    simp [hb]
    refine hR _ _ ?_
    simp [X28]
    rintro rfl rfl rfl; exact absurd ⟨rfl, rfl, rfl⟩ e1
end Go.Proofs.Yteafgpjhgefiiaa.S
