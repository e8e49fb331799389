/-
  Chapter 30: what remains and what is given is the stock.
-/
import Derived.Test.YteafgpjhgefiiaaSwA
namespace Go.Proofs.Yteafgpjhgefiiaa.S
set_option linter.unusedSimpArgs false
set_option linter.unusedVariables false
set_option linter.unusedSectionVars false
open Go.Proofs.Yteafgpjhgefiiaa.Am
set_option maxHeartbeats 4000000
theorem Takes_fn (a b : List Int) (ha : a.length ≤ maxLen) (hb : b.length ≤ maxLen) (hA : ∀ x ∈ a, 0 ≤ x ∧ x < 256) (hB : ∀ x ∈ b, 0 ≤ x ∧ x < 256) :
    Am.Fn Try.prog 6 [0] [BL a, BL b] (.bool true) := by
  have cA := Plates_fn a 10 hA ha (by omega)
  have cB := Plates_fn b 10 hB hb (by omega)
  have oA := kinds_ok a 10 (by omega)
  have oB := kinds_ok b 10 (by omega)
  have lA := kinds_len a 10
  have lB := kinds_len b 10
  generalize kinds (a.take 10) = s at cA oA lA
  generalize kinds (b.take 10) = w at cB oB lB
  have hM := Match_fn s w oA oB
  have hlo := froms_len s w
  have hol : (froms s w).length ≤ maxLen := by rw [hlo]; unfold maxLen; omega
  have hL1 := RLegal_fn s w (froms s w) (miss (froms s w)) oA oB hol (froms_bound oA w)
  rw [legal_froms] at hL1
  have hT := Take_fn s (froms s w) (miss (froms s w)) oA hol (froms_bound oA w)
  have hcnt := takes_count s w
  have oT := take_ok oA (froms s w)
  have lT : (take s (froms s w)).length ≤ s.length := by unfold take; exact takeG_le _ s 0
  have hmem : ∀ x ∈ take s (froms s w) ++ gave (fun p => decide (0 ≤ p)) (froms s w) w, x < 6 := fun x hx => (List.mem_append.1 hx).elim (oT.k x) fun h => oB.k x (gave_sub _ _ _ x h)
  generalize take s (froms s w) = r at hT hcnt oT lT hmem
  generalize froms s w = o at hM hlo hol hL1 hT hcnt hmem
  have hc := NL_cases r
  have hcr : r.length * 64 ≤ 140737488355328 := by omega
  refine fn_introX mixed (X := X6) c6 18 (by simp [X6]) fun Q hR hN => ?_
  simp [X6]
  refine call_of sanity_fn ?_
  simp
  refine call_of cA ?_
  simp
  refine call_of cB ?_
  simp [take_map]
  refine call_of hM ?_
  simp [take_map]
  refine call_of hL1 ?_
  simp [take_map]
  rcases hc with ⟨q1, q2⟩ | ⟨q1, q2⟩
  · rw [q2] at hT
    have start : ∃ l : List Nat, l.length ≤ r.length ∧ r ++ gave (fun p => decide (0 ≤ p)) o w = l ++ gave (fun p => decide (0 ≤ p)) o w ∧ 0 = l.length ∧ [] = List.map plC l := ⟨r, Nat.le_refl _, rfl, by simp [q1], by simp [q1]⟩
    refine call_of hT ?_
    simp [take_map, hcr]
    refine loopX (fun (k : Nat) vs h => k ≤ w.length ∧ ∃ l : List Nat, l.length ≤ r.length + k ∧ r ++ gave (fun p => decide (0 ≤ p)) o w = l ++ gave (fun p => decide (0 ≤ p)) (o.drop k) (w.drop k) ∧
      vs = [.undef, .undef, .undef, .bool true, .own 13 1 s.length 4 0 s.length, .own 14 1 w.length 4 0 w.length, .ptr 15 1 0, .own 16 1 l.length 4 0 l.length, I k, .undef, .undef, .undef, .undef, .undef, .undef] ∧
      h = [dd, dd, dd, dd, dd, dd, dd, dd, dd, dd, dd, dd, dd, (1, .arr 4 0 true (s.map plC)), (1, .arr 4 0 true (w.map plC)), (1, .var [.own 17 1 w.length 1 0 w.length, I (miss o)]), (1, .arr 4 0 false (l.map plC)), (1, .arr 1 0 true (o.map I))]) (fun k => w.length - k) 0 ?_ ?_
    · simp [hlo]
      simpa using start
    · rintro k vs h ⟨h1, l, h2, h3, rfl, rfl⟩ Q' hK hX hR'
      by_cases hk : k < w.length
      · have hw1 : IntKind.i64.wrap ((k : Int) + 1) = ((k + 1 : Nat) : Int) := wrap_ok (by omega) (by omega)
        have hko : k < o.length := by omega
        have hcap : (l.length + 1) * 64 ≤ 140737488355328 := by omega
        rw [gave_drop _ hko hk] at h3
        by_cases t : 0 ≤ o[k]
        · simp only [t, decide_true, if_true] at h3
          simp [hk, hko, hlo, t, hw1, hcap]
          refine hK (k + 1) _ _ (by omega) ?_
          simp
          refine ⟨by omega, l ++ [w[k]], by simp; omega, by rw [h3]; simp, by simp, by simp⟩
        · simp only [t, decide_false, Bool.false_eq_true, if_false, List.nil_append] at h3
          simp [hk, hko, hlo, t, hw1]
          refine hK (k + 1) _ _ (by omega) ?_
          simp
          exact ⟨by omega, l, by omega, h3, by simp⟩
      · rw [List.drop_eq_nil_of_le (by omega : o.length ≤ k)] at h3
        have h4 : r ++ gave (fun p => decide (0 ≤ p)) o w = l := by rw [h3]; cases w.drop k <;> simp [gave]
        rw [h4] at hcnt hmem
        have hll : l.length = s.length := len_congr hmem oA.k hcnt
        have hPl : Pl l := ⟨by omega, hmem⟩
        simp [hk]
        refine hX _ _ _ ?_
        simp
        refine loopX (fun (y : Nat) vs h => y ≤ 6 ∧ vs = [.undef, .undef, .undef, .bool true, .own 13 1 s.length 4 0 s.length, .undef, .undef, .own 14 1 l.length 4 0 l.length, .undef, U y, .undef, .undef, .undef, .undef, .undef] ∧
          h = [dd, dd, dd, dd, dd, dd, dd, dd, dd, dd, dd, dd, dd, (1, .arr 4 0 true (s.map plC)), (1, .arr 4 0 false (l.map plC)), dd, dd, dd]) (fun y => 6 - y) 0 ?_ ?_
        · simp
        · rintro y vs h ⟨g1, rfl, rfl⟩ Q2 hK2 hX2 hR2
          by_cases hy : y < 6
          · have hwy : IntKind.u8.wrap ((y : Int) + 1) = ((y + 1 : Nat) : Int) := by
              have : y = 0 ∨ y = 1 ∨ y = 2 ∨ y = 3 ∨ y = 4 ∨ y = 5 := by omega
              rcases this with rfl | rfl | rfl | rfl | rfl | rfl <;> rfl
            have hyi : (y : Int) < 6 := by omega
            have cY := Plate_fn (y : Int) (by omega) (by omega)
            rw [show (y : Int).toNat % 6 = y by omega] at cY
            simp [hyi]
            refine call_of cY ?_
            simp [take_map, frz_uw, frz_rw]
            refine call_of (Count_fn l y hPl hy) ?_
            simp [take_map, frz_uw, frz_rw]
            refine call_of cY ?_
            simp [take_map, frz_uw, frz_rw]
            refine call_of (Count_fn s y oA hy) ?_
            simp [hcnt y, hwy]
            refine hK2 (y + 1) _ _ (by omega) ?_
            simp
            omega
          · have hyi : ¬ (y : Int) < 6 := by omega
            simp [hyi]
            refine hX2 _ _ _ ?_
            simp [hll]
            refine hR _ _ ?_
            simp [X6]
  · rw [q2] at hT
    have start : ∃ l : List Nat, l.length ≤ r.length ∧ r ++ gave (fun p => decide (0 ≤ p)) o w = l ++ gave (fun p => decide (0 ≤ p)) o w ∧ r.length = l.length ∧ List.map plC r = List.map plC l := ⟨r, Nat.le_refl _, rfl, rfl, rfl⟩
    refine call_of hT ?_
    simp [take_map, hcr]
    refine loopX (fun (k : Nat) vs h => k ≤ w.length ∧ ∃ l : List Nat, l.length ≤ r.length + k ∧ r ++ gave (fun p => decide (0 ≤ p)) o w = l ++ gave (fun p => decide (0 ≤ p)) (o.drop k) (w.drop k) ∧
      vs = [.undef, .undef, .undef, .bool true, .own 13 1 s.length 4 0 s.length, .own 14 1 w.length 4 0 w.length, .ptr 15 1 0, .own 16 1 l.length 4 0 l.length, I k, .undef, .undef, .undef, .undef, .undef, .undef] ∧
      h = [dd, dd, dd, dd, dd, dd, dd, dd, dd, dd, dd, dd, dd, (1, .arr 4 0 true (s.map plC)), (1, .arr 4 0 true (w.map plC)), (1, .var [.own 17 1 w.length 1 0 w.length, I (miss o)]), (1, .arr 4 0 false (l.map plC)), (1, .arr 1 0 true (o.map I))]) (fun k => w.length - k) 0 ?_ ?_
    · simp [hlo]
      simpa using start
    · rintro k vs h ⟨h1, l, h2, h3, rfl, rfl⟩ Q' hK hX hR'
      by_cases hk : k < w.length
      · have hw1 : IntKind.i64.wrap ((k : Int) + 1) = ((k + 1 : Nat) : Int) := wrap_ok (by omega) (by omega)
        have hko : k < o.length := by omega
        have hcap : (l.length + 1) * 64 ≤ 140737488355328 := by omega
        rw [gave_drop _ hko hk] at h3
        by_cases t : 0 ≤ o[k]
        · simp only [t, decide_true, if_true] at h3
          simp [hk, hko, hlo, t, hw1, hcap]
          refine hK (k + 1) _ _ (by omega) ?_
          simp
          refine ⟨by omega, l ++ [w[k]], by simp; omega, by rw [h3]; simp, by simp, by simp⟩
        · simp only [t, decide_false, Bool.false_eq_true, if_false, List.nil_append] at h3
          simp [hk, hko, hlo, t, hw1]
          refine hK (k + 1) _ _ (by omega) ?_
          simp
          exact ⟨by omega, l, by omega, h3, by simp⟩
      · rw [List.drop_eq_nil_of_le (by omega : o.length ≤ k)] at h3
        have h4 : r ++ gave (fun p => decide (0 ≤ p)) o w = l := by rw [h3]; cases w.drop k <;> simp [gave]
        rw [h4] at hcnt hmem
        have hll : l.length = s.length := len_congr hmem oA.k hcnt
        have hPl : Pl l := ⟨by omega, hmem⟩
        simp [hk]
        refine hX _ _ _ ?_
        simp
        refine loopX (fun (y : Nat) vs h => y ≤ 6 ∧ vs = [.undef, .undef, .undef, .bool true, .own 13 1 s.length 4 0 s.length, .undef, .undef, .own 14 1 l.length 4 0 l.length, .undef, U y, .undef, .undef, .undef, .undef, .undef] ∧
          h = [dd, dd, dd, dd, dd, dd, dd, dd, dd, dd, dd, dd, dd, (1, .arr 4 0 true (s.map plC)), (1, .arr 4 0 false (l.map plC)), dd, dd, dd]) (fun y => 6 - y) 0 ?_ ?_
        · simp
        · rintro y vs h ⟨g1, rfl, rfl⟩ Q2 hK2 hX2 hR2
          by_cases hy : y < 6
          · have hwy : IntKind.u8.wrap ((y : Int) + 1) = ((y + 1 : Nat) : Int) := by
              have : y = 0 ∨ y = 1 ∨ y = 2 ∨ y = 3 ∨ y = 4 ∨ y = 5 := by omega
              rcases this with rfl | rfl | rfl | rfl | rfl | rfl <;> rfl
            have hyi : (y : Int) < 6 := by omega
            have cY := Plate_fn (y : Int) (by omega) (by omega)
            rw [show (y : Int).toNat % 6 = y by omega] at cY
            simp [hyi]
            refine call_of cY ?_
            simp [take_map, frz_uw, frz_rw]
            refine call_of (Count_fn l y hPl hy) ?_
            simp [take_map, frz_uw, frz_rw]
            refine call_of cY ?_
            simp [take_map, frz_uw, frz_rw]
            refine call_of (Count_fn s y oA hy) ?_
            simp [hcnt y, hwy]
            refine hK2 (y + 1) _ _ (by omega) ?_
            simp
            omega
          · have hyi : ¬ (y : Int) < 6 := by omega
            simp [hyi]
            refine hX2 _ _ _ ?_
            simp [hll]
            refine hR _ _ ?_
            simp [X6]
end Go.Proofs.Yteafgpjhgefiiaa.S
