/-
  Chapter 30: the first part is matched alike, and as many are missing.
-/
import Derived.Test.YteafgpjhgefiiaaStA
namespace Go.Proofs.Yteafgpjhgefiiaa.S
set_option linter.unusedSimpArgs false
set_option linter.unusedVariables false
set_option linter.unusedSectionVars false
open Go.Proofs.Yteafgpjhgefiiaa.Am
set_option maxHeartbeats 4000000
theorem NL_cases (l : List Nat) : (l = [] ∧ NL l = .nils) ∨ (l ≠ [] ∧ NL l = UL l) := by
  by_cases h : l = []
  · exact .inl ⟨h, by simp [NL, h]⟩
  · exact .inr ⟨h, by simp [NL, h]⟩
theorem pick_bound (s : List Nat) (hs : s.length ≤ 1000) : ∀ (w : List Nat) (u : List Int), (∀ i ∈ u, -1 ≤ i ∧ i < 1000) → ∀ i ∈ fromG s u w, -1 ≤ i ∧ i < 1000
  | [], u, h, i, hi => h i hi
  | x :: w, u, h, i, hi => by
    refine pick_bound s hs w (u ++ [pick s u x]) (fun j hj => ?_) i hi
    rcases List.mem_append.1 hj with hj | hj
    · exact h j hj
    · rw [List.mem_singleton] at hj; subst hj
      have := pickG_ge u x s 0
      unfold pick; omega
theorem froms_bound {s : List Nat} (hs : Pl s) (w : List Nat) : ∀ i ∈ froms s w, -9223372036854775808 ≤ i ∧ i < 9223372036854775808 := fun i hi => by
  have := pick_bound s (by have := hs.n; omega) w [] (fun _ h => by cases h) i hi
  omega
theorem take_ok {s : List Nat} (hs : Pl s) (u : List Int) : Pl (take s u) := ⟨by have := takeG_le u s 0; have := hs.n; unfold take; omega, fun x hx => hs.k x (take_sub s u x hx)⟩
theorem append_ok {s w : List Nat} (hs : Pl s) (hw : Pl w) (h : s.length + w.length ≤ 100) : Pl (s ++ w) := ⟨by simpa using h, fun x hx => (List.mem_append.1 hx).elim (hs.k x) (hw.k x)⟩
theorem kinds_len (l : List Int) (n : Nat) : (kinds (l.take n)).length ≤ n := by simp [kinds]; omega
theorem Parts_fn (a b c : List Int) (ha : a.length ≤ maxLen) (hb : b.length ≤ maxLen) (hc : c.length ≤ maxLen) (hA : ∀ x ∈ a, 0 ≤ x ∧ x < 256) (hB : ∀ x ∈ b, 0 ≤ x ∧ x < 256) (hC : ∀ x ∈ c, 0 ≤ x ∧ x < 256) :
    Am.Fn Try.prog 7 [0] [BL a, BL b, BL c] (.bool true) := by
  have cA := Plates_fn a 10 hA ha (by omega)
  have cB := Plates_fn b 8 hB hb (by omega)
  have cC := Plates_fn c 8 hC hc (by omega)
  have oA := kinds_ok a 10 (by omega)
  have oB := kinds_ok b 8 (by omega)
  have oC := kinds_ok c 8 (by omega)
  have lB := kinds_len b 8
  have lC := kinds_len c 8
  generalize kinds (a.take 10) = s at cA oA
  generalize kinds (b.take 8) = v at cB oB lB
  generalize kinds (c.take 8) = w at cC oC lC
  have oD := append_ok oB oC (by omega)
  have e1 := parts_miss s v w oB.k oC.k
  have hpre : froms s v <+: froms s (v ++ w) := by unfold froms; rw [fromG_append]; exact fromG_pre s w _
  have hlv := froms_len s v
  have hlw := froms_len s (v ++ w)
  rw [List.length_append] at hlw
  have hm1 := miss_le (froms s v)
  have hm2 := miss_le (froms (take s (froms s v)) w)
  have hl2 := froms_len (take s (froms s v)) w
  rw [hlv] at hm1
  rw [hl2] at hm2
  have hM1 := Match_fn s v oA oB
  have hM2 := Match_fn (take s (froms s v)) w (take_ok oA _) oC
  have hM3 := Match_fn s (v ++ w) oA oD
  have hT := Take_fn s (froms s v) (miss (froms s v)) oA (by rw [hlv]; unfold maxLen; omega) (froms_bound oA v)
  have hc := NL_cases (take s (froms s v))
  generalize froms (take s (froms s v)) w = o2 at e1 hm2 hl2 hM2
  generalize take s (froms s v) = r at hM2 hT hc
  generalize froms s v = o1 at e1 hpre hlv hm1 hM1 hT
  generalize froms s (v ++ w) = o3 at e1 hpre hlw hM3
  have hpk : ∀ k (h1 : k < o1.length) (h3 : k < o3.length), o1[k] = o3[k] := fun k h1 h3 => hpre.getElem h1
  obtain ⟨x, hx⟩ : ∃ x, v ++ w = x := ⟨_, rfl⟩
  have hvw : List.map plC v ++ List.map plC w = List.map plC x := by rw [← hx, List.map_append]
  have hxl : v.length + w.length = x.length := by rw [← hx, List.length_append]
  have hxi : (v.length : Int) + w.length = x.length := by omega
  rw [hx] at hM3
  rw [hxl] at hlw
  have hcap1 : v.length * 64 ≤ 140737488355328 := by omega
  have hcap2 : x.length * 64 ≤ 140737488355328 := by omega
  have hwl : IntKind.i64.wrap (x.length : Int) = x.length := wrap_ok (by omega) (by omega)
  have hwm : IntKind.i64.wrap ((miss o1 : Int) + miss o2) = miss o3 := by rw [wrap_ok (by omega) (by omega)]; omega
  refine fn_introX mixed (X := X7) c7 20 (by simp [X7]) fun Q hR hN => ?_
  simp [X7]
  refine call_of sanity_fn ?_
  simp
  refine call_of cA ?_
  simp
  refine call_of cB ?_
  simp
  refine call_of cC ?_
  simp [take_map]
  refine call_of hM1 ?_
  simp [take_map]
  rcases hc with ⟨q1, q2⟩ | ⟨q1, q2⟩
  · rw [q2] at hT
    subst q1
    refine call_of hT ?_
    simp [take_map]
    refine call_of hM2 ?_
    simp [take_map, hcap1, hcap2, hvw, hxl]
    refine call_of hM3 ?_
    simp [take_map, hlv, hlw, hxi, hwl]
    refine loopX (fun (k : Nat) vs h => k ≤ v.length ∧ vs = [.undef, .undef, .undef, .undef, .bool true, .undef, .own 13 1 v.length 4 0 v.length, .undef, .ptr 14 1 0, .ptr 15 1 0, .ptr 16 1 0, I k, .undef, .undef, .undef] ∧
      h = [dd, dd, dd, dd, dd, dd, dd, dd, dd, dd, dd, dd, dd, (1, .arr 4 0 true (v.map plC)), (1, .var [.own 17 1 v.length 1 0 v.length, I (miss o1)]), (1, .var [.own 18 1 o2.length 1 0 o2.length, I (miss o2)]), (1, .var [.own 19 1 x.length 1 0 x.length, I (miss o3)]), (1, .arr 1 0 true (o1.map I)), (1, .arr 1 0 false (o2.map I)), (1, .arr 1 0 false (o3.map I))]) (fun k => v.length - k) 0 ?_ ?_
    · simp
    · rintro k vs h ⟨h1, rfl, rfl⟩ Q' hK hX hR'
      by_cases hk : k < v.length
      · have hw1 : IntKind.i64.wrap ((k : Int) + 1) = ((k + 1 : Nat) : Int) := wrap_ok (by omega) (by omega)
        have hk1 : k < o1.length := by omega
        have hk3 : k < o3.length := by omega
        have hk4 : k < x.length := by omega
        simp [hk, hk1, hk3, hk4, hlv, hlw, hw1, hpk k hk1 hk3]
        refine hK (k + 1) _ _ (by omega) ?_
        simp
        omega
      · simp [hk]
        refine hX _ _ _ ?_
        simp [hwm]
        refine hR _ _ ?_
        simp [X7]
  · rw [q2] at hT
    refine call_of hT ?_
    simp [take_map]
    refine call_of hM2 ?_
    simp [take_map, hcap1, hcap2, hvw, hxl]
    refine call_of hM3 ?_
    simp [take_map, hlv, hlw, hxi, hwl]
    refine loopX (fun (k : Nat) vs h => k ≤ v.length ∧ vs = [.undef, .undef, .undef, .undef, .bool true, .undef, .own 13 1 v.length 4 0 v.length, .undef, .ptr 14 1 0, .ptr 15 1 0, .ptr 16 1 0, I k, .undef, .undef, .undef] ∧
      h = [dd, dd, dd, dd, dd, dd, dd, dd, dd, dd, dd, dd, dd, (1, .arr 4 0 true (v.map plC)), (1, .var [.own 17 1 v.length 1 0 v.length, I (miss o1)]), (1, .var [.own 18 1 o2.length 1 0 o2.length, I (miss o2)]), (1, .var [.own 19 1 x.length 1 0 x.length, I (miss o3)]), (1, .arr 1 0 true (o1.map I)), (1, .arr 1 0 false (o2.map I)), (1, .arr 1 0 false (o3.map I))]) (fun k => v.length - k) 0 ?_ ?_
    · simp
    · rintro k vs h ⟨h1, rfl, rfl⟩ Q' hK hX hR'
      by_cases hk : k < v.length
      · have hw1 : IntKind.i64.wrap ((k : Int) + 1) = ((k + 1 : Nat) : Int) := wrap_ok (by omega) (by omega)
        have hk1 : k < o1.length := by omega
        have hk3 : k < o3.length := by omega
        have hk4 : k < x.length := by omega
        simp [hk, hk1, hk3, hk4, hlv, hlw, hw1, hpk k hk1 hk3]
        refine hK (k + 1) _ _ (by omega) ?_
        simp
        omega
      · simp [hk]
        refine hX _ _ _ ?_
        simp [hwm]
        refine hR _ _ ?_
        simp [X7]
end Go.Proofs.Yteafgpjhgefiiaa.S
