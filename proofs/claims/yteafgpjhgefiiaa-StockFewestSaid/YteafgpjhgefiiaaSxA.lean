/-
  Chapter 30: as many are missing as there are too few equal ones.
-/
import Derived.Test.YteafgpjhgefiiaaSuA
namespace Go.Proofs.Yteafgpjhgefiiaa.S
set_option linter.unusedSimpArgs false
set_option linter.unusedVariables false
set_option linter.unusedSectionVars false
open Go.Proofs.Yteafgpjhgefiiaa.Am
set_option maxHeartbeats 4000000
theorem Fewest_fn (a b : List Int) (ha : a.length ≤ maxLen) (hb : b.length ≤ maxLen) (hA : ∀ x ∈ a, 0 ≤ x ∧ x < 256) (hB : ∀ x ∈ b, 0 ≤ x ∧ x < 256) :
    Am.Fn Try.prog 4 [0] [BL a, BL b] (.bool true) := by
  have cA := Plates_fn a 10 hA ha (by omega)
  have cB := Plates_fn b 10 hB hb (by omega)
  have oA := kinds_ok a 10 (by omega)
  have oB := kinds_ok b 10 (by omega)
  generalize kinds (a.take 10) = s at cA oA
  generalize kinds (b.take 10) = w at cB oB
  have hlw := oB.n
  have hlo := froms_len s w
  have hol : (froms s w).length ≤ maxLen := by rw [hlo]; unfold maxLen; omega
  have hL1 := RLegal_fn s w (froms s w) (miss (froms s w)) oA oB hol (froms_bound oA w)
  have hL2 := Legal_fn s w (froms s w) (miss (froms s w)) oA oB hol (froms_bound oA w)
  rw [legal_froms] at hL1 hL2
  have hS := Short_fn s w oA oB
  have hT := RTake_fn s (froms s w) (miss (froms s w)) oA hol
  have hM := Match_fn s w oA oB
  have hz : ∀ k (hk : k < w.length) (hk' : k < (froms s w).length), (froms s w)[k] < 0 → (take s (froms s w)).count w[k] = 0 := fun k hk hk' hn => by
    have hpre : (froms s w)[k] = pick s (froms s (w.take k)) w[k] := by
      have hp : froms s (w.take (k + 1)) <+: froms s w := by
        conv => rhs; rw [← List.take_append_drop (k + 1) w]
        unfold froms; rw [fromG_append]; exact fromG_pre s _ _
      have e : froms s (w.take (k + 1)) = froms s (w.take k) ++ [pick s (froms s (w.take k)) w[k]] := by
        rw [List.take_succ_eq_append_getElem hk, froms_snoc]
      obtain ⟨t, ht⟩ := hp
      have hlk : (froms s (w.take k)).length = k := by rw [froms_len]; simp; omega
      have : (froms s w)[k]? = some (pick s (froms s (w.take k)) w[k]) := by
        rw [← ht, e, List.append_assoc, List.getElem?_append_right (by omega), hlk]; simp
      rw [List.getElem?_eq_getElem hk'] at this
      exact Option.some.inj this
    rw [hpre, pick_miss] at hn
    rw [take_count]
    have : (w.take k).count w[k] ≤ w.count w[k] := (List.take_sublist k w).count_le _
    omega
  generalize froms s w = o at hlo hL1 hL2 hS hT hM hz hol
  have hmo := miss_le o
  have hP : Pl (take s o) := take_ok oA o
  generalize take s o = r at hT hz hP
  refine fn_introX mixed (X := X4) c4 9 (by simp [X4]) fun Q hR hN => ?_
  simp [X4]
  refine call_of sanity_fn ?_
  simp
  refine call_of cA ?_
  simp
  refine call_of cB ?_
  simp [take_map]
  refine call_of hM ?_
  simp [take_map]
  refine call_of hL1 ?_
  simp [take_map]
  refine call_of hL2 ?_
  simp [take_map]
  refine call_of hS ?_
  simp [take_map]
  refine call_of hT ?_
  simp
  refine loopX (fun (k : Nat) vs h => k ≤ w.length ∧ vs = [.undef, .undef, .undef, .bool true, .undef, .own 5 1 w.length 4 0 w.length, .ptr 6 1 0, .own 7 1 r.length 4 0 r.length, I k, .undef, .undef, .undef] ∧ h = [dd, dd, dd, dd, dd, (1, .arr 4 0 true (w.map plC)), (1, .var [.own 8 1 o.length 1 0 o.length, I (miss o)]), (1, .arr 4 0 false (r.map plC)), (1, .arr 1 0 true (o.map I))]) (fun k => w.length - k) 0 ?_ ?_
  · simp
  · rintro k vs h ⟨h1, rfl, rfl⟩ Q' hK hX hR'
    by_cases hk : k < w.length
    · have hw1 : IntKind.i64.wrap ((k : Int) + 1) = ((k + 1 : Nat) : Int) := wrap_ok (by omega) (by omega)
      have hko : k < o.length := by omega
      by_cases t : o[k] < 0
      · simp [hk, hko, t, take_map]
        refine call_of (Count_fn r w[k] hP (oB.k _ (List.getElem_mem hk))) ?_
        simp [hz k hk hko t, hw1]
        refine hK (k + 1) _ _ (by omega) ?_
        simp
        omega
      · simp [hk, hko, t, hw1]
        refine hK (k + 1) _ _ (by omega) ?_
        simp
        omega
    · simp [hk]
      refine hX _ _ _ ?_
      simp
      refine hR _ _ ?_
      simp [X4]
end Go.Proofs.Yteafgpjhgefiiaa.S
