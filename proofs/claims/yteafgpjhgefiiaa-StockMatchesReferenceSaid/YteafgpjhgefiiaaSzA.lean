/-
  Chapter 30: Match and Take return the results of the reference.
-/
import Derived.Test.YteafgpjhgefiiaaSrA
namespace Go.Proofs.Yteafgpjhgefiiaa.S
set_option linter.unusedSimpArgs false
set_option linter.unusedVariables false
set_option linter.unusedSectionVars false
open Go.Proofs.Yteafgpjhgefiiaa.Am
set_option maxHeartbeats 4000000
theorem MatchesReference_fn (a b l : List Int) (ha : a.length ≤ maxLen) (hb : b.length ≤ maxLen) (hl : l.length ≤ maxLen) (hA : ∀ x ∈ a, 0 ≤ x ∧ x < 256) (hB : ∀ x ∈ b, 0 ≤ x ∧ x < 256) (hL : ∀ x ∈ l, -128 ≤ x ∧ x ≤ 127) :
    Am.Fn Try.prog 3 [0] [BL a, BL b, .slc (l.map I8)] (.bool true) := by
  have cA := Plates_fn a 10 hA ha (by omega)
  have cB := Plates_fn b 10 hB hb (by omega)
  have oA := kinds_ok a 10 (by omega)
  have oB := kinds_ok b 10 (by omega)
  generalize kinds (a.take 10) = s at cA oA
  generalize kinds (b.take 10) = w at cB oB
  have hwn := oB.n
  have hM := Match_fn s w oA oB
  have hR1 := RMatchU_fn s w oA oB
  have hlo := froms_len s w
  have hol : (froms s w).length ≤ maxLen := by rw [hlo]; unfold maxLen; omega
  have hT1 := TakeU_fn s (froms s w) (miss (froms s w)) oA hol (froms_bound oA w)
  have hT2 := RTake_fn s (froms s w) (miss (froms s w)) oA hol
  have hS := Same_fn (froms s w) (froms s w) (miss (froms s w)) (miss (froms s w)) hol
  have hD1 := SameList_fn _ _ (take_ok oA (froms s w)) (take_ok oA (froms s w))
  generalize take s (froms s w) = r at hT1 hT2 hD1
  generalize froms s w = o at hM hR1 hlo hol hT1 hT2 hS
  have hoT : List.take w.length (List.map (PV.int .i64) o) = List.map (PV.int .i64) o := List.take_of_length_le (by simp [hlo])
  have hend : ∀ f : List Int, f.length ≤ 10 → (∀ x ∈ f, x ∈ l) → Am.Fn Try.prog 16 [4] [PL s, MT f 0] (UL (take s f)) ∧ Am.Fn Try.prog 17 [4] [PL s, MT f 0] (UL (take s f)) := fun f h1 h2 =>
    ⟨TakeU_fn s f 0 oA (by unfold maxLen; omega) (fun i hi => by have := hL i (h2 i hi); omega), RTake_fn s f 0 oA (by unfold maxLen; omega)⟩
  refine fn_introX mixed (X := X3) c3 21 (by simp [X3]) fun Q hR hN => ?_
  simp [X3]
  refine call_of sanity_fn ?_
  simp
  refine call_of cA ?_
  simp
  refine call_of cB ?_
  simp [take_map]
  refine call_of hM ?_
  simp [take_map, hlo]
  refine loopX (fun (k : Nat) vs h => k ≤ l.length ∧ k ≤ 10 ∧ ∃ f : List Int, f = l.take k ∧ f.length = k ∧
    vs = [BL a, BL b, .slc (l.map I8), .undef, .bool true, .own 15 1 s.length 4 0 s.length, .own 16 1 w.length 4 0 w.length, .ptr 17 1 0, .ptr 18 1 0, I k, .undef, .undef] ∧
    h = [dd, dd, dd, dd, dd, dd, dd, dd, dd, dd, dd, dd, dd, dd, dd, (1, .arr 4 0 true (s.map plC)), (1, .arr 4 0 true (w.map plC)), (1, .var [.own 19 1 w.length 1 0 w.length, I (miss o)]), (1, .var [fl f, I 0]), (1, .arr 1 0 true (o.map I)), ilR f]) (fun k => l.length - k) 0 ?_ ?_
  · simp [hlo]
    exact ⟨rfl, rfl⟩
  · rintro k vs h ⟨h1, h2, f, h3, h4, rfl, rfl⟩ Q' hK hX hR'
    have hfl : ∀ x ∈ f, x ∈ l := fun x hx => List.mem_of_mem_take (by rw [h3] at hx; exact hx)
    obtain ⟨hF1, hF2⟩ := hend f (by omega) hfl
    have hD2 := SameList_fn _ _ (take_ok oA f) (take_ok oA f)
    by_cases hk : k < l.length
    · by_cases hk2 : k < 10
      · have hw1 : IntKind.i64.wrap ((k : Int) + 1) = ((k + 1 : Nat) : Int) := wrap_ok (by omega) (by omega)
        have hx := hL _ (List.getElem_mem hk)
        have hwx : IntKind.i64.wrap l[k] = l[k] := wrap_ok (by omega) (by omega)
        have hcap : (k + 1) * 8 ≤ 140737488355328 := by omega
        have e : l.take (k + 1) = f ++ [l[k]] := by rw [List.take_succ_eq_append_getElem hk, h3]
        have hki : (k : Int) < 10 := by omega
        rcases fl_cases f with ⟨q0, q1, q2⟩ | ⟨q0, q1, q2⟩
        · subst q0
          simp [hk, hk2, hki, q1, q2, hwx, hw1]
          refine hK (k + 1) _ _ (by omega) ?_
          simp
          have h4' : k = 0 := by simpa using h4.symm
          subst h4'
          rw [e]
          exact ⟨by omega, by omega, by omega, by simp [fl], by simp [ilR]⟩
        · simp [hk, hk2, hki, q1, q2, hwx, hw1, h4, hcap]
          refine hK (k + 1) _ _ (by omega) ?_
          simp [h4]
          rw [e]
          exact ⟨by omega, by omega, by omega, by simp [fl, h4], by simp [ilR]⟩
      · have hki : ¬ (k : Int) < 10 := by omega
        rcases fl_cases f with ⟨q0, q1, q2⟩ | ⟨q0, q1, q2⟩
        · subst q0
          simp [hk, hk2, hki, q1, q2]
          refine hX _ _ _ ?_
          simp [take_map]
          refine call_of hR1 ?_
          simp [take_map, hlo, hoT]
          refine call_of hS ?_
          simp [take_map, hlo, hoT]
          refine call_of hT1 ?_
          simp [take_map, hlo, hoT]
          refine call_of hT2 ?_
          simp [take_map]
          refine call_of hD1 ?_
          simp [take_map]
          refine call_of hF1 ?_
          simp [take_map]
          refine call_of hF2 ?_
          simp [take_map]
          refine call_of hD2 ?_
          simp [take_map]
          refine call_of cA ?_
          simp [take_map]
          refine call_of (SameList_fn s s oA oA) ?_
          simp [take_map]
          refine call_of cB ?_
          simp [take_map]
          refine call_of (SameList_fn w w oB oB) ?_
          simp [take_map]
          refine hR _ _ ?_
          simp [X3]
        · simp [hk, hk2, hki, q1, q2]
          refine hX _ _ _ ?_
          simp [take_map]
          refine call_of hR1 ?_
          simp [take_map, hlo, hoT]
          refine call_of hS ?_
          simp [take_map, hlo, hoT]
          refine call_of hT1 ?_
          simp [take_map, hlo, hoT]
          refine call_of hT2 ?_
          simp [take_map]
          refine call_of hD1 ?_
          simp [take_map]
          refine call_of hF1 ?_
          simp [take_map]
          refine call_of hF2 ?_
          simp [take_map]
          refine call_of hD2 ?_
          simp [take_map]
          refine call_of cA ?_
          simp [take_map]
          refine call_of (SameList_fn s s oA oA) ?_
          simp [take_map]
          refine call_of cB ?_
          simp [take_map]
          refine call_of (SameList_fn w w oB oB) ?_
          simp [take_map]
          refine hR _ _ ?_
          simp [X3]
    · rcases fl_cases f with ⟨q0, q1, q2⟩ | ⟨q0, q1, q2⟩
      · subst q0
        simp [hk, q1, q2]
        · refine hX _ _ _ ?_
          simp [take_map]
          refine call_of hR1 ?_
          simp [take_map, hlo, hoT]
          refine call_of hS ?_
          simp [take_map, hlo, hoT]
          refine call_of hT1 ?_
          simp [take_map, hlo, hoT]
          refine call_of hT2 ?_
          simp [take_map]
          refine call_of hD1 ?_
          simp [take_map]
          refine call_of hF1 ?_
          simp [take_map]
          refine call_of hF2 ?_
          simp [take_map]
          refine call_of hD2 ?_
          simp [take_map]
          refine call_of cA ?_
          simp [take_map]
          refine call_of (SameList_fn s s oA oA) ?_
          simp [take_map]
          refine call_of cB ?_
          simp [take_map]
          refine call_of (SameList_fn w w oB oB) ?_
          simp [take_map]
          refine hR _ _ ?_
          simp [X3]
      · simp [hk, q1, q2]
        · refine hX _ _ _ ?_
          simp [take_map]
          refine call_of hR1 ?_
          simp [take_map, hlo, hoT]
          refine call_of hS ?_
          simp [take_map, hlo, hoT]
          refine call_of hT1 ?_
          simp [take_map, hlo, hoT]
          refine call_of hT2 ?_
          simp [take_map]
          refine call_of hD1 ?_
          simp [take_map]
          refine call_of hF1 ?_
          simp [take_map]
          refine call_of hF2 ?_
          simp [take_map]
          refine call_of hD2 ?_
          simp [take_map]
          refine call_of cA ?_
          simp [take_map]
          refine call_of (SameList_fn s s oA oA) ?_
          simp [take_map]
          refine call_of cB ?_
          simp [take_map]
          refine call_of (SameList_fn w w oB oB) ?_
          simp [take_map]
          refine hR _ _ ?_
          simp [X3]
end Go.Proofs.Yteafgpjhgefiiaa.S
