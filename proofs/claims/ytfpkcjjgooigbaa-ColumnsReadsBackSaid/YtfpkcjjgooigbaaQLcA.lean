/-
  Chapter 18's functions, for chapter 20: lines compared, blanks, cells, indents.
-/
import Derived.Test.YtfpkcjjgooigbaaQLaX
import Derived.Test.YtfpkcjjgooigbaaQLbP
namespace Go.Proofs.Ytfpkcjjgooigbaa.L
set_option linter.unusedSimpArgs false
set_option linter.unusedVariables false
set_option linter.unusedSectionVars false
open Go.Proofs.Ytfpkcjjgooigbaa.Am
set_option maxHeartbeats 8000000
theorem wrap_ok {n : Int} (h1 : -9223372036854775808 ≤ n) (h2 : n ≤ 9223372036854775807) : IntKind.i64.wrap n = n := by
  simp [IntKind.wrap, IntKind.signed, IntKind.bits]
  omega
abbrev I (n : Int) : PV := .int .i64 n
abbrev U (n : Int) : PV := .int .u8 n
abbrev CL (xs : Word) : PV := .slc (xs.map U)
abbrev CLL (xs : List Word) : PV := .slc (xs.map CL)
theorem SameLine_fn (xs ys : Word) (ha : xs.length ≤ maxLen) : Am.Fn Try.prog 29 [0] [CL xs, CL ys] (.bool (xs == ys)) := by
  refine fn_introX mixed (X := X29) c29 0 (by simp [X29]) fun Q hR hN => ?_
  by_cases he : xs.length = ys.length
  · simp [X29, he]
    refine loopX (fun (k : Nat) vs h => k ≤ xs.length ∧ xs.take k = ys.take k ∧ vs = [CL xs, CL ys, .undef, I k, .undef, .undef, .undef] ∧ h = []) (fun k => xs.length - k) 0 ?_ ?_
    · simp
    · rintro k vs h ⟨h1, h2, rfl, rfl⟩ Q hK hX hR'
      by_cases hk : k < xs.length
      · have hk' : k < ys.length := he ▸ hk
        by_cases hxy : xs[k] = ys[k]
        · have hw : IntKind.i64.wrap ((k : Int) + 1) = ((k + 1 : Nat) : Int) := wrap_ok (by omega) (by unfold maxLen at ha; omega)
          simp [hk, hk', hxy, hw]
          refine hK (k + 1) _ _ (by omega) ?_
          simp
          exact ⟨by omega, by rw [List.take_succ_eq_append_getElem hk, List.take_succ_eq_append_getElem hk', h2, hxy]⟩
        · simp [hk, hk', hxy]
          refine hR' _ _ ?_
          simp
          refine hR _ _ ?_
          simp [X29]
          rintro rfl; exact hxy rfl
      · simp [hk]
        refine hX _ _ _ ?_
        simp
        refine hR _ _ ?_
        simp [X29]
        rw [List.take_of_length_le (by omega), List.take_of_length_le (by omega)] at h2
        exact h2
  · simp [X29, he]
    refine hR _ _ ?_
    have : (xs == ys) = false := by
      simp only [beq_eq_false_iff_ne]; rintro rfl; exact he rfl
    simp [X29, this]
theorem Same_fn (xs ys : List Word) (ha : xs.length ≤ maxLen) (hx : ∀ r ∈ xs, r.length ≤ maxLen) : Am.Fn Try.prog 15 [0] [CLL xs, CLL ys] (.bool (xs == ys)) := by
  refine fn_introX mixed (X := X15) c15 0 (by simp [X15]) fun Q hR hN => ?_
  by_cases he : xs.length = ys.length
  · simp [X15, he]
    refine loopX (fun (k : Nat) vs h => k ≤ xs.length ∧ xs.take k = ys.take k ∧ vs = [CLL xs, CLL ys, .undef, I k, .undef, .undef, .undef] ∧ h = []) (fun k => xs.length - k) 0 ?_ ?_
    · simp
    · rintro k vs h ⟨h1, h2, rfl, rfl⟩ Q hK hX hR'
      by_cases hk : k < xs.length
      · have hk' : k < ys.length := he ▸ hk
        simp [hk, hk']
        refine call_of (SameLine_fn xs[k] ys[k] (hx _ (List.getElem_mem hk))) ?_
        by_cases hxy : xs[k] = ys[k]
        · have hw : IntKind.i64.wrap ((k : Int) + 1) = ((k + 1 : Nat) : Int) := wrap_ok (by omega) (by unfold maxLen at ha; omega)
          simp [hk, hk', hxy, hw]
          refine hK (k + 1) _ _ (by omega) ?_
          simp
          exact ⟨by omega, by rw [List.take_succ_eq_append_getElem hk, List.take_succ_eq_append_getElem hk', h2, hxy]⟩
        · have hxy' : (xs[k] == ys[k]) = false := by simpa using hxy
          simp [hk, hk', hxy']
          refine hR' _ _ ?_
          simp
          refine hR _ _ ?_
          simp [X15]
          rintro rfl; exact hxy rfl
      · simp [hk]
        refine hX _ _ _ ?_
        simp
        refine hR _ _ ?_
        simp [X15]
        rw [List.take_of_length_le (by omega), List.take_of_length_le (by omega)] at h2
        exact h2
  · simp [X15, he]
    refine hR _ _ ?_
    have : (xs == ys) = false := by
      simp only [beq_eq_false_iff_ne]; rintro rfl; exact he rfl
    simp [X15, this]
theorem indentP_fn (l : Word) (hl : l.length ≤ maxLen) : Am.Fn Try.prog 48 [0] [CL l] (I (indent l)) := by
  refine fn_introX mixed (X := X48) c48 0 (by simp [X48]) fun Q hR hN => ?_
  simp [X48]
  refine loopX (fun (k : Nat) vs h => k ≤ l.length ∧ indent l = k + indent (l.drop k) ∧ vs = [CL l, .undef, .undef, .undef, CL l, I l.length, I k, .undef, .undef] ∧ h = []) (fun k => l.length - k) 0 ?_ ?_
  · simp
  · rintro k vs h ⟨h1, h2, rfl, rfl⟩ Q hK hX hR'
    by_cases hk : k < l.length
    · rw [List.drop_eq_getElem_cons hk, indent] at h2
      by_cases hc : l[k] = 0
      · rw [if_pos hc] at h2
        have hw : IntKind.i64.wrap ((k : Int) + 1) = ((k + 1 : Nat) : Int) := wrap_ok (by omega) (by unfold maxLen at hl; omega)
        simp [hk, hc, hw]
        refine hK (k + 1) _ _ (by omega) ?_
        simp
        exact ⟨by omega, by omega⟩
      · rw [if_neg hc] at h2
        simp [hk, hc]
        refine hR' _ _ ?_
        simp
        refine hR _ _ ?_
        simp [X48, h2]
    · simp [hk]
      refine hX _ _ _ ?_
      simp
      refine hR _ _ ?_
      rw [List.drop_eq_nil_of_le (by omega), indent] at h2
      simp [X48, h2]; omega
theorem Valid_fn (c : Int) : Am.Fn Try.prog 52 [0] [U c] (.bool (decide (c < 64))) := by
  refine fn_introX mixed (X := X52) c52 0 (by simp [X52]) fun Q hR hN => ?_
  simp [X52]
  refine hR _ _ ?_
  simp [X52]
def okI (i0 i1 : Int) : Bool := decide (0 ≤ i0) && decide (i0 ≤ 16) && decide (0 ≤ i1) && decide (i1 ≤ 16)
theorem fitsI_fn (i0 i1 : Int) : Am.Fn Try.prog 56 [0] [.agg [I i0, I i1]] (.bool (okI i0 i1)) := by
  refine fn_introX mixed (X := X56) c56 1 (by simp [X56]) fun Q hR hN => ?_
  by_cases t1 : 0 ≤ i0
  · by_cases t2 : i0 ≤ 16
    · by_cases t3 : 0 ≤ i1
      · simp [X56, t1, t2, t3]
        refine hR _ _ ?_
        simp [X56, okI, t1, t2, t3]
      · simp [X56, t1, t2, t3]
        refine hR _ _ ?_
        simp [X56, okI, t1, t2, t3]
    · simp [X56, t1, t2]
      refine hR _ _ ?_
      simp [X56, okI, t1, t2]
  · simp [X56, t1]
    refine hR _ _ ?_
    simp [X56, okI, t1]
end Go.Proofs.Ytfpkcjjgooigbaa.L
