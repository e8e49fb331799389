/-
  Chapter 30: plates compared by number; lists of numbers; plates counted.
-/
import Derived.Test.YteafgpjhgefiiaaSeA
namespace Go.Proofs.Yteafgpjhgefiiaa.S
set_option linter.unusedSimpArgs false
set_option linter.unusedVariables false
set_option linter.unusedSectionVars false
open Go.Proofs.Yteafgpjhgefiiaa.Am
theorem same_run : ((List.range 6).all fun a => (List.range 6).all fun b => (decide (up a = up b ∧ dn a = dn b)) == (a == b)) = true := by kernel_rfl
theorem ok_run : ((List.range 6).all fun a => (up a).length == 12 && (dn a).length == 12 && (up a).all (·.length == 48) && (dn a).all (·.length == 48)) = true := by kernel_rfl
theorem same_up {a b : Nat} (ha : a < 6) (hb : b < 6) : (up a = up b ∧ dn a = dn b) ↔ a = b := by
  have h := List.all_eq_true.1 (List.all_eq_true.1 same_run a (List.mem_range.2 ha)) b (List.mem_range.2 hb)
  have h2 : decide (up a = up b ∧ dn a = dn b) = (a == b) := by simpa only [beq_iff_eq] using h
  by_cases e : a = b
  · simp [e]
  · have : (a == b) = false := by simp [e]
    rw [this, decide_eq_false_iff_not] at h2
    simp only [e, iff_false]; exact h2
theorem ok_up {a : Nat} (ha : a < 6) : Ok (up a) ∧ Ok (dn a) := by
  have h := List.all_eq_true.1 ok_run a (List.mem_range.2 ha)
  simp only [Bool.and_eq_true, List.all_eq_true, beq_iff_eq] at h
  obtain ⟨⟨⟨h1, h2⟩, h3⟩, h4⟩ := h
  exact ⟨⟨by rw [h1]; decide, fun r hr => by rw [h3 r hr]; decide⟩, ⟨by rw [h2]; decide, fun r hr => by rw [h4 r hr]; decide⟩⟩
theorem EqP_fn {a b : Nat} (ha : a < 6) (hb : b < 6) : Am.Fn Try.prog 26 [0] [plC a, plC b] (.bool (decide (a = b))) := by
  have h := Equal_fn (w := 48) (h := 12) (w' := 48) (h' := 12) (up b) (dn b) (ok_up ha).1 (ok_up ha).2
  have e : decide ((48 : Int) = 48 ∧ (12 : Int) = 12 ∧ up a = up b ∧ dn a = dn b) = decide (a = b) := by
    simp only [true_and]; exact decide_eq_decide.2 (same_up ha hb)
  rw [e] at h; exact h
theorem REqP_fn {a b : Nat} (ha : a < 6) (hb : b < 6) : Am.Fn Try.prog 28 [0] [plC a, plC b] (.bool (decide (a = b))) := by
  have h := REqual_fn (w := 48) (h := 12) (w' := 48) (h' := 12) (up b) (dn b) (ok_up ha).1 (ok_up ha).2
  have e : decide ((48 : Int) = 48 ∧ (12 : Int) = 12 ∧ up a = up b ∧ dn a = dn b) = decide (a = b) := by
    simp only [true_and]; exact decide_eq_decide.2 (same_up ha hb)
  rw [e] at h; exact h
abbrev PL (l : List Nat) : PV := .slc (l.map plC)
abbrev UL (l : List Nat) : PV := .uslc (l.map plC)
abbrev UE (l : List Nat) : PV := .uslc (l.map plE)
abbrev IL (l : List Int) : PV := .slc (l.map I)
/-- all are numbers of plates, and not too many -/
structure Pl (l : List Nat) : Prop where
  n : l.length ≤ 100
  k : ∀ x ∈ l, x < 6
theorem Has_fn (l : List Int) (n : Int) (hl : l.length ≤ maxLen) : Am.Fn Try.prog 27 [0] [IL l, I n] (.bool (decide (n ∈ l))) := by
  refine fn_introX mixed (X := X27) c27 0 (by simp [X27]) fun Q hR hN => ?_
  simp [X27]
  refine loopX (fun (k : Nat) vs h => k ≤ l.length ∧ n ∉ l.take k ∧ vs = [IL l, I n, .undef, I k, .undef, .undef] ∧ h = []) (fun k => l.length - k) 0 ?_ ?_
  · simp
  · rintro k vs h ⟨h1, h2, rfl, rfl⟩ Q hK hX hR'
    by_cases hk : k < l.length
    · by_cases he : l[k] = n
      · simp [hk, he]
        refine hR' _ _ ?_
        simp
        refine hR _ _ ?_
        simp [X27]
        exact he ▸ List.getElem_mem hk
      · have hw : IntKind.i64.wrap ((k : Int) + 1) = ((k + 1 : Nat) : Int) := wrap_ok (by omega) (by unfold maxLen at hl; omega)
        simp [hk, he, hw]
        refine hK (k + 1) _ _ (by omega) ?_
        simp
        refine ⟨by omega, ?_⟩
        rw [List.take_succ_eq_append_getElem hk]
        exact fun hh => (List.mem_append.1 hh).elim h2 fun q => he (List.mem_singleton.1 q).symm
    · obtain rfl : k = l.length := by omega
      simp
      refine hX _ _ _ ?_
      simp
      refine hR _ _ ?_
      simp [X27]
      simpa using h2
abbrev MT (l : List Int) (m : Int) : PV := .agg [IL l, I m]
theorem Same_fn (a b : List Int) (m n : Int) (ha : a.length ≤ maxLen) : Am.Fn Try.prog 14 [0] [MT a m, MT b n] (.bool (decide (a = b ∧ m = n))) := by
  refine fn_introX mixed (X := X14) c14 4 (by simp [X14]) fun Q hR hN => ?_
  by_cases he : a.length = b.length
  · by_cases hm : m = n
    · subst hm
      simp [X14, he]
      refine loopX (fun (k : Nat) vs h => k ≤ a.length ∧ a.take k = b.take k ∧ vs = [.undef, .undef, .ptr 2 1 0, .ptr 3 1 0, .undef, I k, .undef, .undef, .undef] ∧ h = [(0, .dead), (0, .dead), (1, .var [IL a, I m]), (1, .var [IL b, I m])]) (fun k => a.length - k) 0 ?_ ?_
      · simp
      · rintro k vs h ⟨h1, h2, rfl, rfl⟩ Q hK hX hR'
        by_cases hk : k < a.length
        · have hk' : k < b.length := he ▸ hk
          by_cases hxy : a[k] = b[k]
          · have hw : IntKind.i64.wrap ((k : Int) + 1) = ((k + 1 : Nat) : Int) := wrap_ok (by omega) (by unfold maxLen at ha; omega)
            simp [hk, hk', hxy, hw]
            refine hK (k + 1) _ _ (by omega) ?_
            simp
            exact ⟨by omega, by rw [List.take_succ_eq_append_getElem hk, List.take_succ_eq_append_getElem hk', h2, hxy]⟩
          · simp [hk, hk', hxy]
            refine hR' _ _ ?_
            simp
            refine hR _ _ ?_
            simp [X14]
            rintro rfl; exact hxy rfl
        · simp [hk]
          refine hX _ _ _ ?_
          simp
          refine hR _ _ ?_
          simp [X14]
          have := List.take_of_length_le (l := a) (i := k) (by omega)
          have h3 := List.take_of_length_le (l := b) (i := k) (by omega)
          rw [this, h3] at h2
          exact h2
    · simp [X14, he, hm]
      refine hR _ _ ?_
      simp [X14, hm]
  · simp [X14, he]
    refine hR _ _ ?_
    simp [X14]
    rintro rfl; exact absurd rfl he
theorem SameList_fn (a b : List Nat) (ha : Pl a) (hb : Pl b) : Am.Fn Try.prog 15 [0] [PL a, PL b] (.bool (decide (a = b))) := by
  refine fn_introX mixed (X := X15) c15 0 (by simp [X15]) fun Q hR hN => ?_
  by_cases he : a.length = b.length
  · simp [X15, he]
    refine loopX (fun (k : Nat) vs h => k ≤ a.length ∧ a.take k = b.take k ∧ vs = [PL a, PL b, .undef, I k, .undef, .undef, .undef] ∧ h = []) (fun k => a.length - k) 0 ?_ ?_
    · simp
    · rintro k vs h ⟨h1, h2, rfl, rfl⟩ Q hK hX hR'
      by_cases hk : k < a.length
      · have hk' : k < b.length := he ▸ hk
        have hn := ha.n
        have hw : IntKind.i64.wrap ((k : Int) + 1) = ((k + 1 : Nat) : Int) := wrap_ok (by omega) (by omega)
        simp [hk, hk']
        refine call_of (REqP_fn (ha.k _ (List.getElem_mem hk)) (hb.k _ (List.getElem_mem hk'))) ?_
        by_cases hxy : a[k] = b[k]
        · simp [hxy, hw]
          refine hK (k + 1) _ _ (by omega) ?_
          simp
          exact ⟨by omega, by rw [List.take_succ_eq_append_getElem hk, List.take_succ_eq_append_getElem hk', h2, hxy]⟩
        · simp [hxy]
          refine hR' _ _ ?_
          simp
          refine hR _ _ ?_
          simp [X15]
          rintro rfl; exact hxy rfl
      · simp [hk]
        refine hX _ _ _ ?_
        simp
        refine hR _ _ ?_
        simp [X15]
        have := List.take_of_length_le (l := a) (i := k) (by omega)
        have h3 := List.take_of_length_le (l := b) (i := k) (by omega)
        rw [this, h3] at h2
        exact h2
  · simp [X15, he]
    refine hR _ _ ?_
    simp [X15]
    rintro rfl; exact he rfl
theorem Count_fn (a : List Nat) (p : Nat) (ha : Pl a) (hp : p < 6) : Am.Fn Try.prog 21 [0] [PL a, plC p] (I (a.count p)) := by
  refine fn_introX mixed (X := X21) c21 2 (by simp [X21]) fun Q hR hN => ?_
  simp [X21]
  refine loopX (fun (k : Nat) vs h => k ≤ a.length ∧ vs = [PL a, .undef, .ptr 1 1 0, .undef, I ((a.take k).count p), I k, .undef, .undef] ∧ h = [(0, .dead), (1, .var [I 48, I 12, DT (up p), DT (dn p)])]) (fun k => a.length - k) 0 ?_ ?_
  · simp
  · rintro k vs h ⟨h1, rfl, rfl⟩ Q hK hX hR'
    by_cases hk : k < a.length
    · have hn := ha.n
      have hw : IntKind.i64.wrap ((k : Int) + 1) = ((k + 1 : Nat) : Int) := wrap_ok (by omega) (by omega)
      have hc : (a.take k).count p ≤ k := Nat.le_trans List.count_le_length (by simp; omega)
      have hw2 : IntKind.i64.wrap (((a.take k).count p : Int) + 1) = (((a.take k).count p + 1 : Nat) : Int) := wrap_ok (by omega) (by omega)
      have e : (a.take (k + 1)).count p = (a.take k).count p + if a[k] = p then 1 else 0 := by
        rw [List.take_succ_eq_append_getElem hk, List.count_append, List.count_singleton]; simp
      simp [hk]
      refine call_of (REqP_fn (ha.k _ (List.getElem_mem hk)) hp) ?_
      by_cases hxy : a[k] = p
      · simp [hxy, hw, hw2]
        refine hK (k + 1) _ _ (by omega) ?_
        rw [if_pos hxy] at e
        simp [e]
        omega
      · simp [hxy, hw]
        refine hK (k + 1) _ _ (by omega) ?_
        rw [if_neg hxy] at e
        simp [e]
        omega
    · obtain rfl : k = a.length := by omega
      simp
      refine hX _ _ _ ?_
      simp
      refine hR _ _ ?_
      simp [X21]
end Go.Proofs.Yteafgpjhgefiiaa.S
