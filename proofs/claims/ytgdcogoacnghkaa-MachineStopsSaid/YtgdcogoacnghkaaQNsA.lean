/-
  Chapter 27: rows, plates, grids compared.
-/
import Derived.Test.YtgdcogoacnghkaaQNsX
import Derived.Test.YtgdcogoacnghkaaQNpA
import Derived.Test.YtgdcogoacnghkaaQNqA
import Derived.Test.YtgdcogoacnghkaaQNrA
import Derived.Test.YtgdcogoacnghkaaQNjA
import Derived.Test.YtgdcogoacnghkaaQNoX
namespace Go.Proofs.Ytgdcogoacnghkaa.N
set_option linter.unusedSimpArgs false
set_option linter.unusedVariables false
set_option linter.unusedSectionVars false
open Go.Proofs.Ytgdcogoacnghkaa.Am
set_option maxHeartbeats 2000000
theorem Rws.ok {d : List (List Bool)} (h : Rws d) : d.length ≤ maxLen ∧ ∀ r ∈ d, r.length ≤ maxLen := ⟨by have := h.1; unfold maxLen; omega, fun r hr => by have := h.2 r hr; unfold maxLen; omega⟩
theorem SlEq_fn (a b : List Bool) (ha : a.length ≤ maxLen) : Am.Fn Try.prog 64 [0] [RW a, RW b] (.bool (decide (a = b))) := by
  refine fn_introX mixed (X := X64) c64 0 (by simp [X64]) fun Q hR hN => ?_
  by_cases he : a.length = b.length
  · simp [X64, he]
    refine loopX (fun (k : Nat) vs h => k ≤ a.length ∧ a.take k = b.take k ∧ vs = [RW a, RW b, .undef, .undef, .undef, I b.length, I k, .undef, .undef] ∧ h = []) (fun k => a.length - k) 0 ?_ ?_
    · simp
    · rintro k vs h ⟨h1, h2, rfl, rfl⟩ Q hK hX hR'
      by_cases hk : k < a.length
      · have hk' : k < b.length := he ▸ hk
        by_cases hxy : a[k] = b[k]
        · have hw : IntKind.i64.wrap ((k : Int) + 1) = ((k + 1 : Nat) : Int) := wrap_ok (by omega) (by unfold maxLen at ha; omega)
          simp [hk, hk', hxy, hw]
          refine hK (k + 1) _ _ (by omega) ?_
          simp
          exact ⟨by omega, by rw [List.take_succ_eq_append_getElem hk, List.take_succ_eq_append_getElem hk', h2, hxy]⟩
        · simp [hk, hk', hxy]
          refine hR' _ _ ?_
          simp
          refine hR _ _ ?_
          simp [X64]
          rintro rfl; exact hxy rfl
      · simp [show ¬ k < b.length by omega]
        refine hX _ _ _ ?_
        simp
        refine hR _ _ ?_
        simp [X64]
        have := List.take_of_length_le (l := a) (i := k) (by omega)
        have h3 := List.take_of_length_le (l := b) (i := k) (by omega)
        rw [this, h3] at h2
        exact h2
  · simp [X64, he]
    refine hR _ _ ?_
    simp [X64]
    rintro rfl; exact he rfl
theorem same1_fi (h : Heap) (a b : List Bool) (ha : a.length ≤ maxLen) : FI Try.prog (.fn (.func 63) [] []) [RW a, RW b] h (.bool (decide (a = b))) [] := by
  refine fn_introXI mixed (X := X63) c63 (by simp [X63]) (by simp) fun Q hR hN => ?_
  simp [X63]
  refine call_of (SlEq_fn a b ha) ?_
  simp
  refine hR _ _ ?_
  simp [X63, finI]
theorem eqf_fi (h : Heap) (a b : List (List Bool)) (ha : a.length ≤ maxLen) (hr : ∀ r ∈ a, r.length ≤ maxLen) : FI Try.prog (.fn (.func 62) [] []) [DT a, DT b, .fn (.func 63) [] []] h (.bool (decide (a = b))) [] := by
  refine fn_introXI mixed (X := X62) c62 (by simp [X62]) (by simp) fun Q hR hN => ?_
  by_cases he : a.length = b.length
  · simp [X62, he]
    refine loopR (fun (k : Nat) vs h' => k ≤ a.length ∧ a.take k = b.take k ∧ h' = h ∧ ∃ x y z u t, vs = [DT a, DT b, .fn (.func 63) [] [], .bool false, x, y, z, .bool false, DT a, I b.length, I k, u, t]) (fun k => a.length - k) 0 ?_ ?_
    · simp
    · rintro k vs h' ⟨h1, h2, rfl, x, y, z, u, t, rfl⟩ Q hK hX hR'
      by_cases hk : k < a.length
      · have hk' : k < b.length := he ▸ hk
        have hw : IntKind.i64.wrap ((k : Int) + 1) = ((k + 1 : Nat) : Int) := wrap_ok (by omega) (by unfold maxLen at ha; omega)
        simp [hk, hk']
        refine cally_of (same1_fi h' a[k] b[k] (hr _ (List.getElem_mem hk))) ?_
        by_cases hxy : a[k] = b[k]
        · simp [hxy, hw]
          refine hK (k + 1) _ _ (by omega) ?_
          simp
          exact ⟨by omega, by rw [List.take_succ_eq_append_getElem hk, List.take_succ_eq_append_getElem hk', h2, hxy]⟩
        · simp [hxy]
          refine hR' _ _ ?_
          simp
          refine hR _ _ ?_
          simp [X62, finI]
          rintro rfl; exact hxy rfl
      · simp [show ¬ k < b.length by omega]
        refine hX _ _ _ ?_
        simp
        refine hR _ _ ?_
        simp [X62, finI]
        have := List.take_of_length_le (l := a) (i := k) (by omega)
        have h3 := List.take_of_length_le (l := b) (i := k) (by omega)
        rw [this, h3] at h2
        exact h2
  · simp [X62, he]
    refine hR _ _ ?_
    simp [X62, finI]
    rintro rfl; exact he rfl
/-- rows that are short -/
structure Ok (d : List (List Bool)) : Prop where
  n : d.length ≤ maxLen
  r : ∀ r ∈ d, r.length ≤ maxLen
theorem Rws.Ok {d : List (List Bool)} (h : Rws d) : N.Ok d := ⟨h.ok.1, h.ok.2⟩
theorem sameDots_fn {a : List (List Bool)} (b : List (List Bool)) (ha : Ok a) : Am.Fn Try.prog 55 [0] [DT a, DT b] (.bool (decide (a = b))) := by
  refine fn_introX mixed (X := X55) c55 0 (by simp [X55]) fun Q hR hN => ?_
  simp [X55]
  refine callv_of (eqf_fi _ a b ha.n ha.r) ?_
  simp
  refine hR _ _ ?_
  simp [X55]
theorem SEqual_fn {w h w' h' : Int} {u d : List (List Bool)} (u' d' : List (List Bool)) (hu : Ok u) (hd : Ok d) : Am.Fn Try.prog 42 [0] [PC w h u d, PC w' h' u' d'] (.bool (decide (w = w' ∧ h = h' ∧ u = u' ∧ d = d'))) := by
  refine fn_introX mixed (X := X42) c42 2 (by simp [X42]) fun Q hR hN => ?_
  by_cases h1 : w = w'
  · by_cases h2 : h = h'
    · simp [X42, h1, h2]
      refine call_of (sameDots_fn u' hu) ?_
      by_cases h3 : u = u'
      · simp [h3]
        refine call_of (sameDots_fn d' hd) ?_
        simp
        refine hR _ _ ?_
        simp [X42, h1, h2, h3]
      · simp [h3]
        refine hR _ _ ?_
        simp [X42, h1, h2, h3]
    · simp [X42, h1, h2]
      refine hR _ _ ?_
      simp [X42, h1, h2]
  · simp [X42, h1]
    refine hR _ _ ?_
    simp [X42, h1]
theorem REqual_fn (w h w' h' : Int) (u d u' d' : List (List Bool)) (hu : Rws u) (hd : Rws d) : Am.Fn Try.prog 17 [0] [PC w h u d, PC w' h' u' d'] (.bool (decide (w = w' ∧ h = h' ∧ u = u' ∧ d = d'))) := by
  refine fn_introX mixed (X := X17) c17 6 (by simp [X17]) fun Q hR hN => ?_
  simp [X17]
  refine call_of (front_fn w h u d) ?_
  simp
  refine call_of (front_fn w' h' u' d') ?_
  simp
  refine call_of (GSame_fn w h w' h' u u' hu) ?_
  simp
  by_cases e1 : w = w' ∧ h = h' ∧ u = u'
  · obtain ⟨rfl, rfl, rfl⟩ := e1
    simp
    refine call_of (back_fn w h u d) ?_
    simp
    refine call_of (back_fn w h u d') ?_
    simp
    refine call_of (GSame_fn w h w h d d' hd) ?_
    simp
    refine hR _ _ ?_
    simp [X17]
  · have hb : (decide (w = w') && (decide (h = h') && decide (u = u'))) = false := by
      rw [← Bool.not_eq_true]; simpa using e1
    simp [hb]
    refine hR _ _ ?_
    simp [X17]
    rintro rfl rfl rfl; exact absurd ⟨rfl, rfl, rfl⟩ e1
/-- is a grid valid? -/
def gvalB (w h : Int) (d : List (List Bool)) : Bool := decide (0 ≤ w ∧ w ≤ 200 ∧ 0 ≤ h ∧ h ≤ 200) && decide (d.length = h) && d.all fun r => decide (r.length = w)
theorem GValid_fn (w h : Int) (d : List (List Bool)) : Am.Fn Try.prog 45 [0] [GR w h d] (.bool (gvalB w h d)) := by
  refine fn_introX mixed (X := X45) c45 2 (by simp [X45]) fun Q hR hN => ?_
  by_cases t1 : w < 0
  case pos => simp [X45, t1]; refine hR _ _ ?_; simp [X45, gvalB]; omega
  by_cases t2 : 200 < w
  case pos => simp [X45, t1, t2]; refine hR _ _ ?_; simp [X45, gvalB]; omega
  by_cases t3 : h < 0
  case pos => simp [X45, t1, t2, t3]; refine hR _ _ ?_; simp [X45, gvalB]; omega
  by_cases t4 : 200 < h
  case pos => simp [X45, t1, t2, t3, t4]; refine hR _ _ ?_; simp [X45, gvalB]; omega
  by_cases t5 : (d.length : Int) = h
  case neg => simp [X45, t1, t2, t3, t4, t5]; refine hR _ _ ?_; simp [X45, gvalB, t5]
  obtain ⟨n, rfl⟩ : ∃ n : Nat, h = n := ⟨h.toNat, by omega⟩
  have t6 : d.length = n := by omega
  have b0 : (0 ≤ w ∧ w ≤ 200 ∧ 0 ≤ (n : Int) ∧ (n : Int) ≤ 200) := by omega
  simp [X45, t1, t2, t3, t4, t6]
  refine loopX (fun (k : Nat) vs h' => k ≤ n ∧ gvalB w n d = (d.drop k).all (fun r => decide ((r.length : Int) = w)) ∧ vs = [.undef, .ptr 1 1 0, .undef, I k, .undef, .undef, .undef] ∧ h' = [dd, (1, .var [I w, I n, DT d])]) (fun k => n - k) 0 ?_ ?_
  · simp [gvalB, b0, t6]
  · rintro k vs h' ⟨h1, h2, rfl, rfl⟩ Q' hK hX hR'
    by_cases hk : k < n
    · have hkd : k < d.length := by omega
      have hw1 : IntKind.i64.wrap ((k : Int) + 1) = ((k + 1 : Nat) : Int) := wrap_ok (by omega) (by omega)
      rw [List.drop_eq_getElem_cons hkd, List.all_cons] at h2
      by_cases hl : (d[k].length : Int) = w
      · simp [hk, hkd, hl, hw1]
        refine hK (k + 1) _ _ (by omega) ?_
        simp
        exact ⟨by omega, by simpa [hl] using h2⟩
      · simp [hk, hkd, hl]
        refine hR' _ _ ?_
        simp
        refine hR _ _ ?_
        simp [X45, h2, hl]
    · rw [List.drop_eq_nil_of_le (by omega)] at h2
      simp [hk]
      refine hX _ _ _ ?_
      simp
      refine hR _ _ ?_
      simp [X45, h2]
theorem Sized_fn (w h a b : Int) (u d : List (List Bool)) : Am.Fn Try.prog 25 [0] [PC w h u d, I a, I b] (.bool (decide (w = a ∧ h = b) && gvalB w h u && gvalB w h d)) := by
  refine fn_introX mixed (X := X25) c25 3 (by simp [X25]) fun Q hR hN => ?_
  by_cases t1 : w = a
  case neg => simp [X25, t1]; refine hR _ _ ?_; simp [X25, t1]
  by_cases t2 : h = b
  case neg => simp [X25, t1, t2]; refine hR _ _ ?_; simp [X25, t1, t2]
  subst t1 t2
  simp [X25]
  refine call_of (front_fn w h u d) ?_
  simp
  refine call_of (GValid_fn w h u) ?_
  by_cases t3 : gvalB w h u = true
  · simp [t3]
    refine call_of (back_fn w h u d) ?_
    simp
    refine call_of (GValid_fn w h d) ?_
    simp
    refine hR _ _ ?_
    simp [X25, t3]
  · simp only [Bool.not_eq_true] at t3
    simp [t3]
    refine hR _ _ ?_
    simp [X25, t3]
theorem RBlank_fn (w h : Nat) (hw : w ≤ 200) (hh : h ≤ 200) : Am.Fn Try.prog 26 [0, 0, 1, 1] [I w, I h] (PU w h (blankD w h) (blankD w h)) := by
  have hN1 := New_fn w h hw hh
  refine fn_introX mixed (X := X26) c26 3 (by simp [X26]) fun Q hR hN => ?_
  simp [X26]
  refine call_of hN1 ?_
  simp
  refine call_of hN1 ?_
  simp
  refine hR _ _ ?_
  simp [X26, blankD]
end Go.Proofs.Ytgdcogoacnghkaa.N
