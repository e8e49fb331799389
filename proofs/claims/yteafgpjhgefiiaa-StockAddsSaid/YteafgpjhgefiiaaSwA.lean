/-
  Chapter 30: the missing sheets added; one sheet added.
-/
import Derived.Test.YteafgpjhgefiiaaSuA
namespace Go.Proofs.Yteafgpjhgefiiaa.S
set_option linter.unusedSimpArgs false
set_option linter.unusedVariables false
set_option linter.unusedSectionVars false
open Go.Proofs.Yteafgpjhgefiiaa.Am
set_option maxHeartbeats 4000000
theorem gave_drop (ok : Int → Bool) {o : List Int} {w : List Nat} {k : Nat} (h1 : k < o.length) (h2 : k < w.length) : gave ok (o.drop k) (w.drop k) = (if ok o[k] then [w[k]] else []) ++ gave ok (o.drop (k + 1)) (w.drop (k + 1)) := by
  rw [List.drop_eq_getElem_cons h1, List.drop_eq_getElem_cons h2, gave]
  split <;> simp
theorem gave_len_le (ok : Int → Bool) : ∀ (o : List Int) (w : List Nat), (gave ok o w).length ≤ w.length
  | [], w => by simp [gave]
  | _ :: _, [] => by simp [gave]
  | a :: o, x :: w => by
    have := gave_len_le ok o w
    unfold gave; split <;> simp <;> omega
theorem one_ok {p : Nat} (h : p < 6) : Pl [p] := ⟨by simp, fun x hx => by rw [List.mem_singleton] at hx; omega⟩
theorem Adds_fn (a b : List Int) (p : Int) (ha : a.length ≤ maxLen) (hb : b.length ≤ maxLen) (hA : ∀ x ∈ a, 0 ≤ x ∧ x < 256) (hB : ∀ x ∈ b, 0 ≤ x ∧ x < 256) (hp : 0 ≤ p ∧ p < 256) :
    Am.Fn Try.prog 8 [0] [BL a, BL b, U p] (.bool true) := by
  have cA := Plates_fn a 10 hA ha (by omega)
  have cB := Plates_fn b 10 hB hb (by omega)
  have oA := kinds_ok a 10 (by omega)
  have oB := kinds_ok b 10 (by omega)
  have lA := kinds_len a 10
  have lB := kinds_len b 10
  generalize kinds (a.take 10) = s at cA oA lA
  generalize kinds (b.take 10) = w at cB oB lB
  have cP := Plate_fn p hp.1 hp.2
  have hq : p.toNat % 6 < 6 := by omega
  generalize p.toNat % 6 = q at cP hq
  have lG := gave_len_le (fun p => decide (p < 0)) (froms s w) w
  have oG : Pl (gave (fun p => decide (p < 0)) (froms s w) w) := ⟨by omega, fun x hx => oB.k x (gave_sub _ _ _ x hx)⟩
  have oM := append_ok oA oG (by omega)
  have oO := append_ok oA (one_ok hq) (by simp; omega)
  have hM := Match_fn s w oA oB
  have hM0 := Match_fn _ w oM oB
  have hM1 := Match_fn _ w oO oB
  rw [more_miss s w oB.k] at hM0
  rw [show PL (s ++ [q]) = PV.slc (List.map plC s ++ [plC q]) by simp] at hM1
  obtain ⟨u1, u2⟩ := one_miss s w q oB.k hq
  have hgl := gave_len s w oB.k
  have hlo := froms_len s w
  have hmo := miss_le (froms s w)
  have hm1 := miss_le (froms (s ++ [q]) w)
  rw [froms_len] at hm1
  rw [hlo] at hmo
  generalize froms (s ++ [q]) w = o1 at hM1 u1 u2 hm1
  generalize froms s w = o at hM hM0 u1 u2 hgl hlo hmo oM lG
  have hcap1 : s.length * 64 ≤ 140737488355328 := by omega
  have hcap2 : (s.length + 1) * 64 ≤ 140737488355328 := by omega
  have hcap3 : ((s.length : Int) + 1) * 64 ≤ 140737488355328 := by omega
  have v1 : (miss o1 : Int) ≤ miss o := by omega
  have hws : IntKind.i64.wrap ((miss o : Int) - 1) = (miss o : Int) - 1 := wrap_ok (by omega) (by omega)
  have v2 : (miss o : Int) - 1 ≤ miss o1 := by omega
  have hwa : IntKind.i64.wrap ((s.length : Int) + miss o) = (s.length : Int) + miss o := wrap_ok (by omega) (by omega)
  refine fn_introX mixed (X := X8) c8 21 (by simp [X8]) fun Q hR hN => ?_
  simp [X8]
  refine call_of sanity_fn ?_
  simp
  refine call_of cA ?_
  simp
  refine call_of cB ?_
  simp [take_map]
  refine call_of hM ?_
  simp [take_map, hlo, hcap1]
  refine loopX (fun (k : Nat) vs h => k ≤ w.length ∧ ∃ l : List Nat, l.length ≤ s.length + k ∧ s ++ gave (fun p => decide (p < 0)) o w = l ++ gave (fun p => decide (p < 0)) (o.drop k) (w.drop k) ∧
    vs = [.undef, .undef, U p, .undef, .bool true, .own 16 1 s.length 4 0 s.length, .own 17 1 w.length 4 0 w.length, .ptr 18 1 0, .own 19 1 l.length 4 0 l.length, I k, .undef, .undef, .undef, .undef] ∧
    h = [dd, dd, dd, dd, dd, dd, dd, dd, dd, dd, dd, dd, dd, dd, dd, dd, (1, .arr 4 0 true (s.map plC)), (1, .arr 4 0 true (w.map plC)), (1, .var [.own 20 1 w.length 1 0 w.length, I (miss o)]), (1, .arr 4 0 false (l.map plC)), (1, .arr 1 0 false (o.map I))]) (fun k => w.length - k) 0 ?_ ?_
  · simp
    exact ⟨s, by simp, rfl, by simp, by simp⟩
  · rintro k vs h ⟨h1, l, h2, h3, rfl, rfl⟩ Q' hK hX hR'
    by_cases hk : k < w.length
    · have hw1 : IntKind.i64.wrap ((k : Int) + 1) = ((k + 1 : Nat) : Int) := wrap_ok (by omega) (by omega)
      have hko : k < o.length := by omega
      have hcap : (l.length + 1) * 64 ≤ 140737488355328 := by omega
      rw [gave_drop _ hko hk] at h3
      by_cases t : o[k] < 0
      · simp only [t, decide_true, if_true] at h3
        simp [hk, hko, hlo, t, hw1, hcap]
        refine hK (k + 1) _ _ (by omega) ?_
        simp
        refine ⟨by omega, l ++ [w[k]], by simp; omega, by rw [h3]; simp, by simp, by simp⟩
      · simp only [t, decide_false, Bool.false_eq_true, if_false, List.nil_append] at h3
        simp [hk, hko, hlo, t, hw1]
        refine hK (k + 1) _ _ (by omega) ?_
        simp
        exact ⟨by omega, l, by omega, h3, by simp⟩
    · rw [List.drop_eq_nil_of_le (by omega : o.length ≤ k)] at h3
      have h4 : s ++ gave (fun p => decide (p < 0)) o w = l := by rw [h3]; cases w.drop k <;> simp [gave]
      have hll : l.length = s.length + miss o := by rw [← h4, List.length_append, hgl]
      rw [h4] at hM0
      simp [hk]
      refine hX _ _ _ ?_
      simp [take_map, hcap1]
      refine call_of cP ?_
      obtain ⟨big, hb1⟩ : ∃ big, List.map plC s ++ [plE q] = big := ⟨_, rfl⟩
      have hb2 : big.length = s.length + 1 := by rw [← hb1]; simp
      have hb3 : ∀ x, x ∈ big → noRefE x = true := by
        rw [← hb1]; intro x hx
        rcases List.mem_append.1 hx with hx | hx
        · exact allC (p := fun x => noRefE x = true) s nrC x hx
        · rw [List.mem_singleton] at hx; subst hx; exact nrE q
      have hb4 : List.map frzE big = List.map plC s ++ [plC q] := by rw [← hb1]; simp
      have hb6 : List.take (s.length + 1) (List.map plC s ++ [plC q]) = List.map plC s ++ [plC q] := List.take_of_length_le (by simp)
      have hb5 : List.take (s.length + 1) big = big := List.take_of_length_le (by omega)
      simp [take_map, frz_uw, frz_rw, hcap2, hb1, hb2, hb5]
      rw [if_pos hb3, hb4, hb6]
      refine call_of hM1 ?_
      simp [take_map]
      refine call_of hM0 ?_
      simp [v1, v2, hws, hwa, hll]
      refine hR _ _ ?_
      simp [X8]
end Go.Proofs.Yteafgpjhgefiiaa.S
