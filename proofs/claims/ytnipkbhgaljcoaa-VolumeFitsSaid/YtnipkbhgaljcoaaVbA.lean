/-
  Chapter 23: lists compared.
-/
import Derived.Test.YtnipkbhgaljcoaaVaX
namespace Go.Proofs.Ytnipkbhgaljcoaa.V
set_option linter.unusedSimpArgs false
set_option linter.unusedVariables false
set_option linter.unusedSectionVars false
open Go.Proofs.Ytnipkbhgaljcoaa.Am
theorem wrap_ok {n : Int} (h1 : -9223372036854775808 ≤ n) (h2 : n ≤ 9223372036854775807) : IntKind.i64.wrap n = n := by
  simp [IntKind.wrap, IntKind.signed, IntKind.bits]
  omega
abbrev I (n : Int) : PV := .int .i64 n
abbrev L (xs : List Int) : PV := .slc (xs.map I)
abbrev LL (xs : List (List Int)) : PV := .slc (xs.map L)
theorem same_fn (xs ys : List Int) (ha : xs.length ≤ maxLen) (hb : ys.length ≤ maxLen) : Am.Fn Try.prog 16 [0] [L xs, L ys] (.bool (xs == ys)) := by
  refine fn_introX mixed (X := X16) c16 0 (by simp [X16]) fun Q hR hN => ?_
  by_cases he : xs.length = ys.length
  · simp [X16, r_nil, he]
    refine loopX (fun (k : Nat) vs h => k ≤ xs.length ∧ xs.take k = ys.take k ∧ vs = [L xs, L ys, .undef, I k, .undef, .undef, .undef] ∧ h = []) (fun k => xs.length - k) 0 ?_ ?_
    · simp [settled, settled]
    · rintro k vs h ⟨h1, h2, rfl, rfl⟩ Q hK hX hR'
      by_cases hk : k < xs.length
      · have hk' : k < ys.length := he ▸ hk
        by_cases hxy : xs[k] = ys[k]
        · have hw : IntKind.i64.wrap ((k : Int) + 1) = ((k + 1 : Nat) : Int) := wrap_ok (by omega) (by unfold maxLen at ha; omega)
          simp [r_nil, hk, hk', hxy, hw]
          refine hK (k + 1) _ _ (by omega) ?_
          simp [settled, settled]
          exact ⟨by omega, by rw [List.take_succ_eq_append_getElem hk, List.take_succ_eq_append_getElem hk', h2, hxy]⟩
        · simp [r_nil, hk, hk', hxy]
          refine hR' _ _ ?_
          simp [r_nil]
          refine hR _ _ ?_
          simp [X16, fin]
          rintro rfl; exact hxy rfl
      · simp [r_nil, hk]
        refine hX _ _ _ ?_
        simp [r_nil]
        refine hR _ _ ?_
        simp [X16, fin]
        rw [List.take_of_length_le (by omega), List.take_of_length_le (by omega)] at h2
        exact h2
  · simp [X16, r_nil, he]
    refine hR _ _ ?_
    have : (xs == ys) = false := by
      simp only [beq_eq_false_iff_ne]; rintro rfl; exact he rfl
    simp [X16, fin, this]
def shp (c : List (List Int)) (n : Int) : Bool := (c.length : Int) == n && c.all fun r => (r.length : Int) == n + 1
theorem shp_iff {c : List (List Int)} {n : Nat} : shp c n = true ↔ c.length = n ∧ ∀ r ∈ c, r.length = n + 1 := by
  unfold shp
  simp only [Bool.and_eq_true, beq_iff_eq, List.all_eq_true]
  constructor
  · rintro ⟨h1, h2⟩; exact ⟨by omega, fun r hr => by have := h2 r hr; omega⟩
  · rintro ⟨h1, h2⟩; exact ⟨by omega, fun r hr => by have := h2 r hr; omega⟩
theorem shaped_fn (c : List (List Int)) (n : Int) (hc : c.length ≤ maxLen) (hn : -9223372036854775808 ≤ n ∧ n < 9223372036854775807) : Am.Fn Try.prog 18 [0] [LL c, I n] (.bool (shp c n)) := by
  refine fn_introX mixed (X := X18) c18 0 (by simp [X18]) fun Q hR hN => ?_
  have hw : IntKind.i64.wrap (n + 1) = n + 1 := wrap_ok (by omega) (by omega)
  by_cases he : (c.length : Int) = n
  · simp [X18, r_nil, he]
    refine loopX (fun (k : Nat) vs h => k ≤ c.length ∧ ((c.take k).all fun r => (r.length : Int) == n + 1) = true ∧ vs = [.undef, I n, .undef, .undef, .undef, LL c, I c.length, I k, .undef, .undef] ∧ h = []) (fun k => c.length - k) 0 ?_ ?_
    · simp [settled, settled, he]
    · rintro k vs h ⟨h1, h2, rfl, rfl⟩ Q hK hX hR'
      by_cases hk : k < c.length
      · have hwk : IntKind.i64.wrap ((k : Int) + 1) = ((k + 1 : Nat) : Int) := wrap_ok (by omega) (by unfold maxLen at hc; omega)
        by_cases hr : (c[k].length : Int) = n + 1
        · simp [r_nil, hk, hr, hw, hwk]
          refine hK (k + 1) _ _ (by omega) ?_
          simp [settled, settled]
          refine ⟨by omega, fun x hx => ?_⟩
          rw [List.take_succ_eq_append_getElem hk, List.mem_append, List.mem_singleton] at hx
          rcases hx with hx | rfl
          · simpa using List.all_eq_true.1 h2 x hx
          · exact hr
        · simp [r_nil, hk, hr, hw]
          refine hR' _ _ ?_
          simp [r_nil]
          refine hR _ _ ?_
          simp [X18, fin, shp]
          exact fun _ => ⟨c[k], List.getElem_mem hk, hr⟩
      · simp [r_nil, hk]
        refine hX _ _ _ ?_
        simp [r_nil]
        refine hR _ _ ?_
        simp [X18, fin, shp]
        refine ⟨he, fun x hx => ?_⟩
        rw [List.take_of_length_le (by omega)] at h2
        simpa using List.all_eq_true.1 h2 x hx
  · simp [X18, r_nil, he]
    refine hR _ _ ?_
    simp [X18, fin, shp, he]
theorem Shaped_fn (c : List (List Int)) (n : Int) (hc : c.length ≤ maxLen) (hn : -9223372036854775808 ≤ n ∧ n < 9223372036854775807) : Am.Fn Try.prog 20 [0] [LL c, I n] (.bool (shp c n)) := by
  refine fn_introX mixed (X := X20) c20 0 (by simp [X20]) fun Q hR hN => ?_
  have hw : IntKind.i64.wrap (n + 1) = n + 1 := wrap_ok (by omega) (by omega)
  by_cases he : (c.length : Int) = n
  · simp [X20, r_nil, he]
    refine loopX (fun (k : Nat) vs h => k ≤ c.length ∧ ((c.take k).all fun r => (r.length : Int) == n + 1) = true ∧ vs = [LL c, I n, .undef, I k, .undef, .undef, .undef] ∧ h = []) (fun k => c.length - k) 0 ?_ ?_
    · simp [settled, settled]
    · rintro k vs h ⟨h1, h2, rfl, rfl⟩ Q hK hX hR'
      by_cases hk : k < c.length
      · have hkn : (k : Int) < n := by omega
        have hwk : IntKind.i64.wrap ((k : Int) + 1) = ((k + 1 : Nat) : Int) := wrap_ok (by omega) (by unfold maxLen at hc; omega)
        by_cases hr : (c[k].length : Int) = n + 1
        · simp [r_nil, hk, hkn, hr, hw, hwk]
          refine hK (k + 1) _ _ (by omega) ?_
          simp [settled, settled]
          refine ⟨by omega, fun x hx => ?_⟩
          rw [List.take_succ_eq_append_getElem hk, List.mem_append, List.mem_singleton] at hx
          rcases hx with hx | rfl
          · simpa using List.all_eq_true.1 h2 x hx
          · exact hr
        · simp [r_nil, hk, hkn, hr, hw]
          refine hR' _ _ ?_
          simp [r_nil]
          refine hR _ _ ?_
          simp [X20, fin, shp]
          exact fun _ => ⟨c[k], List.getElem_mem hk, hr⟩
      · have hkn : ¬ (k : Int) < n := by omega
        simp [r_nil, hkn]
        refine hX _ _ _ ?_
        simp [r_nil]
        refine hR _ _ ?_
        simp [X20, fin, shp]
        refine ⟨he, fun x hx => ?_⟩
        rw [List.take_of_length_le (by omega)] at h2
        simpa using List.all_eq_true.1 h2 x hx
  · simp [X20, r_nil, he]
    refine hR _ _ ?_
    simp [X20, fin, shp, he]
def cmpG : List Int → List Int → Bool
  | x :: xs, y :: ys => if x = y then cmpG xs ys else decide (x > y)
  | _, _ => false
def bet (a b : List Int) : Bool := if a.length = b.length then cmpG a b else decide (a.length < b.length)
theorem better_fn (xs ys : List Int) (ha : xs.length ≤ maxLen) (hb : ys.length ≤ maxLen) : Am.Fn Try.prog 17 [0] [L xs, L ys] (.bool (bet xs ys)) := by
  refine fn_introX mixed (X := X17) c17 0 (by simp [X17]) fun Q hR hN => ?_
  by_cases he : xs.length = ys.length
  · simp [X17, r_nil, he]
    refine loopX (fun (k : Nat) vs h => k ≤ xs.length ∧ cmpG xs ys = cmpG (xs.drop k) (ys.drop k) ∧ vs = [L xs, L ys, .undef, I k, .undef, .undef, .undef] ∧ h = []) (fun k => xs.length - k) 0 ?_ ?_
    · simp [settled, settled]
    · rintro k vs h ⟨h1, h2, rfl, rfl⟩ Q hK hX hR'
      by_cases hk : k < xs.length
      · have hk' : k < ys.length := he ▸ hk
        rw [List.drop_eq_getElem_cons hk, List.drop_eq_getElem_cons hk', cmpG] at h2
        by_cases hxy : xs[k] = ys[k]
        · have hw : IntKind.i64.wrap ((k : Int) + 1) = ((k + 1 : Nat) : Int) := wrap_ok (by omega) (by unfold maxLen at ha; omega)
          rw [if_pos hxy] at h2
          simp [r_nil, hk, hk', hxy, hw]
          refine hK (k + 1) _ _ (by omega) ?_
          simp [settled, settled]
          exact ⟨by omega, h2⟩
        · rw [if_neg hxy] at h2
          simp [r_nil, hk, hk', hxy]
          refine hR' _ _ ?_
          simp [r_nil]
          refine hR _ _ ?_
          simp [X17, fin, bet, he, h2]
      · simp [r_nil, hk]
        refine hX _ _ _ ?_
        simp [r_nil]
        refine hR _ _ ?_
        simp [X17, fin, bet, he]
        rw [h2, List.drop_eq_nil_of_le (by omega)]
        rfl
  · simp [X17, r_nil, he]
    refine hR _ _ ?_
    simp [X17, fin, bet, he]
end Go.Proofs.Ytnipkbhgaljcoaa.V
