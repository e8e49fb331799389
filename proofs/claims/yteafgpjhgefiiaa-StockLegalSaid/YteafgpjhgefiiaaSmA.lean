/-
  Chapter 30: stock.Legal; the function that is passed to 'first' writes the caller's variables.
-/
import Derived.Test.YteafgpjhgefiiaaSlA
namespace Go.Proofs.Yteafgpjhgefiiaa.S
set_option linter.unusedSimpArgs false
set_option linter.unusedVariables false
set_option linter.unusedSectionVars false
open Go.Proofs.Yteafgpjhgefiiaa.Am
set_option maxHeartbeats 2000000
/-- the caller's memory -/
abbrev lh (s w : List Nat) (l : List Int) (m : Int) (bs : List Bool) (n : Nat) : Heap := [(1, .var [PL s]), (1, .var [PL w]), (1, .var [IL l, I m]), (1, .arr 1 0 false (bs.map .bool)), (1, .var [.own 3 1 s.length 1 0 s.length]), (1, .var [I n])]
abbrev lrow (bs : List Bool) : Nat × Row := (3, (1, .arr 1 0 false (bs.map .bool)))
abbrev nrow (n : Nat) : Nat × Row := (5, (1, .var [I n]))
abbrev fn30 : PV := .fn (.func 30) [] [.ptr 5 1 0, .ptr 0 1 0, .ptr 4 1 0, .ptr 1 1 0]
theorem askM_fi (s w : List Nat) (l : List Int) (m : Int) (bs : List Bool) (n k : Nat) (hn : n ≤ 1000) : FI Try.prog fn30 [I k, I (-1)] (lh s w l m bs n) (.bool false) [nrow (n + 1)] := by
  refine fn_introXI mixed (X := X30) c30 (by simp [X30]) (by simp) fun Q hR hN => ?_
  have hw : IntKind.i64.wrap ((n : Int) + 1) = ((n + 1 : Nat) : Int) := wrap_ok (by omega) (by omega)
  simp [X30, hw]
  refine hR _ _ ?_
  simp [X30, finI]
theorem askL_fi (s w : List Nat) (l u : List Int) (m : Int) (bs : List Bool) (n k : Nat) (i : Int) (hs : Pl s) (hw : Pl w) (hk : k < w.length) (hi : i ≠ -1) (h1 : -9223372036854775808 ≤ i) (h2 : i < 9223372036854775808)
    (hb : bs.length = s.length) (hu : ∀ j, j < s.length → bs[j]?.getD false = decide ((j : Int) ∈ u)) : FI Try.prog fn30 [I k, I i] (lh s w l m bs n) (.bool (bad s u w[k] i)) (if bad s u w[k] i then [] else [lrow (bs.set i.toNat true)]) := by
  refine fn_introXI mixed (X := X30) c30 (by simp [X30]) (by simp) fun Q hR hN => ?_
  have hsl := hs.n
  have hwl := hw.n
  have hwk : IntKind.i64.wrap (k : Int) = k := wrap_ok (by omega) (by omega)
  by_cases t2 : i < 0
  · have hbad : bad s u w[k] i = true := by simp [bad, t2]
    simp [X30, hi, t2]
    refine hR _ _ ?_
    simp [X30, finI, hbad]
  · obtain ⟨j, rfl⟩ : ∃ j : Nat, i = j := ⟨i.toNat, by omega⟩
    have hwj : IntKind.i64.wrap (j : Int) = j := wrap_ok (by omega) (by omega)
    by_cases t3 : j < s.length
    · have t3' : ¬ s.length ≤ j := by omega
      have hjb : j < bs.length := by omega
      have hg : bs[j] = decide ((j : Int) ∈ u) := by rw [← hu j t3]; simp [hjb]
      by_cases t4 : (j : Int) ∈ u
      · have hbad : bad s u w[k] j = true := by simp [bad, t4]
        simp [X30, hi, t3, t3', hb, hwj, hg, t4]
        refine hR _ _ ?_
        simp [X30, finI, hbad]
      · simp [X30, hi, t3, t3', hb, hwj, hwk, hg, t4, hk]
        refine call_of (EqP_fn (hs.k _ (List.getElem_mem t3)) (hw.k _ (List.getElem_mem hk))) ?_
        by_cases t5 : s[j] = w[k]
        · have hbad : bad s u w[k] j = false := by simp [bad, t4, t5, t3]
          simp [t3, hb, hwj, t5]
          refine hR _ _ ?_
          simp [X30, finI, hbad]
        · have hbad : bad s u w[k] j = true := by simp [bad, t4, t5, t3]
          simp [t5]
          refine hR _ _ ?_
          simp [X30, finI, hbad]
    · have t3' : s.length ≤ j := by omega
      have hbad : bad s u w[k] j = true := by simp [bad, t3']
      simp [X30, hi, t3']
      refine hR _ _ ?_
      simp [X30, finI, hbad]
theorem firstL_fi (s w : List Nat) (l : List Int) (m : Int) (hs : Pl s) (hw : Pl w) (he : l.length = w.length) (hbl : ∀ i ∈ l, -9223372036854775808 ≤ i ∧ i < 9223372036854775808) :
    ∃ r ws, ((match legG s [] w l 0 with | none => ∃ (j n : Nat) (bs : List Bool), r = I j ∧ ws = [lrow bs, nrow n] | some n => ∃ bs : List Bool, r = I (-1) ∧ ws = [lrow bs, nrow n])) ∧
      FI Try.prog (.fn (.func 29) [] []) [IL l, fn30] (lh s w l m (List.replicate s.length false) 0) r ws := by
  refine fn_introIE mixed (X := X29) c29 (by simp [X29]) (by simp) fun Q hR hN => ?_
  have hsl := hs.n
  have hwl := hw.n
  simp [X29]
  refine loopR (fun (k : Nat) vs h => k ≤ w.length ∧ ∃ (n : Nat) (bs : List Bool), n ≤ k ∧ bs.length = s.length ∧ (∀ j, j < s.length → bs[j]?.getD false = decide ((j : Int) ∈ l.take k)) ∧ legG s [] w l 0 = legG s (l.take k) (w.drop k) (l.drop k) n ∧ (∃ y z t t', vs = [IL l, fn30, I 0, y, z, IL l, I w.length, I k, t, t']) ∧ h = lh s w l m bs n) (fun k => w.length - k) 0 ?_ ?_
  · simp [he]
    refine ⟨List.replicate s.length false, by simp, fun j hj => by simp [List.getElem?_replicate, hj], by simp⟩
  · rintro k vs h ⟨h1, n, bs, h2, h3, h4, h5, ⟨y, z, t, t', rfl⟩, rfl⟩ Q' hK hX hR'
    by_cases hk : k < w.length
    · have hkl : k < l.length := by omega
      have hw1 : IntKind.i64.wrap ((k : Int) + 1) = ((k + 1 : Nat) : Int) := wrap_ok (by omega) (by omega)
      have hbk := hbl _ (List.getElem_mem hkl)
      have htk : l.take (k + 1) = l.take k ++ [l[k]] := List.take_succ_eq_append_getElem hkl
      rw [List.drop_eq_getElem_cons hk, List.drop_eq_getElem_cons hkl, legG, ← htk] at h5
      by_cases t1 : l[k] = -1
      · rw [if_pos t1] at h5
        simp [hk, hkl, t1]
        refine callv_of (askM_fi s w l m bs n k (by omega)) ?_
        simp [hw1]
        refine hK (k + 1) _ _ (by omega) ?_
        refine ⟨by omega, n + 1, bs, by omega, h3, fun j hj => ?_, h5, ⟨I k, I (-1), .bool true, .bool false, by simp⟩, by simp⟩
        rw [h4 j hj, htk, t1]
        apply decide_eq_decide.2
        simp only [List.mem_append, List.mem_singleton]
        constructor
        · exact .inl
        · rintro (h | h)
          · exact h
          · omega
      · rw [if_neg t1] at h5
        have hask := askL_fi s w l (l.take k) m bs n k l[k] hs hw hk t1 hbk.1 (by omega) h3 h4
        by_cases hbad : bad s (l.take k) w[k] l[k] = true
        · rw [if_pos hbad] at h5
          simp only [hbad, if_true] at hask
          simp [hk, hkl]
          refine callv_of hask ?_
          simp
          refine hR' _ _ ?_
          simp
          refine hR (I k) [lrow bs, nrow n] _ _ ?_ ?_
          rotate_left
          · simp [X29, finI]
          · rw [h5]; exact ⟨k, n, bs, rfl, rfl⟩
        · rw [if_neg hbad] at h5
          have hbad' : bad s (l.take k) w[k] l[k] = false := by simpa using hbad
          simp only [hbad', Bool.false_eq_true, if_false] at hask
          simp [hk, hkl]
          refine callv_of hask ?_
          simp [hw1]
          refine hK (k + 1) _ _ (by omega) ?_
          refine ⟨by omega, n, bs.set l[k].toNat true, by omega, by simp [h3], fun j hj => ?_, h5, ⟨I k, I l[k], .bool true, .bool false, by simp⟩, by simp⟩
          have hnn : ¬ l[k] < 0 ∧ ¬ (s.length : Int) ≤ l[k] := by
            constructor <;> intro hh <;> simp [bad, hh] at hbad'
          rw [htk]
          by_cases ej : j = l[k].toNat
          · subst ej
            have : l[k] ∈ l.take k ++ [l[k]] := List.mem_append_right _ (List.mem_singleton.2 rfl)
            rw [show ((l[k].toNat : Nat) : Int) = l[k] by omega, List.getElem?_set_self (by omega), Option.getD_some]
            exact (decide_eq_true this).symm
          · rw [List.getElem?_set_ne (Ne.symm ej), h4 j hj]
            apply decide_eq_decide.2
            simp only [List.mem_append, List.mem_singleton]
            constructor
            · exact .inl
            · rintro (h | h)
              · exact h
              · omega
    · rw [List.drop_eq_nil_of_le (by omega), legG_nil] at h5
      simp [hk]
      refine hX _ _ _ ?_
      simp
      refine hR (I (-1)) [lrow bs, nrow n] _ _ ?_ ?_
      rotate_left
      · simp [X29, finI]
      · rw [h5]; exact ⟨bs, rfl, rfl⟩
theorem Legal_fn (s w : List Nat) (l : List Int) (m : Int) (hs : Pl s) (hw : Pl w) (hl : l.length ≤ maxLen) (hbl : ∀ i ∈ l, -9223372036854775808 ≤ i ∧ i < 9223372036854775808) : Am.Fn Try.prog 19 [0] [PL s, PL w, MT l m] (.bool (legal s w l m)) := by
  refine fn_introX mixed (X := X19) c19 6 (by simp [X19]) fun Q hR hN => ?_
  have hsl := hs.n
  have hc1 : (s.length : Int) ≤ 140737488355328 := by omega
  have hc2 : (s.length : Int) ≤ 9223372036854775807 := by omega
  by_cases he : l.length = w.length
  · obtain ⟨r, ws, h1, hf⟩ := firstL_fi s w l m hs hw he hbl
    have hlg : legal s w l m = match legG s [] w l 0 with | none => false | some n => decide ((n : Int) = m) := by unfold legal; cases legG s [] w l 0 <;> simp [he]
    rw [hlg] at hR hN
    simp [X19, he, hc1, hc2]
    simp only [lh, List.map_replicate] at hf
    refine callv_of hf ?_
    cases hg : legG s [] w l 0 with
    | none =>
      rw [hg] at h1 hR hN
      obtain ⟨j, n, bs, rfl, rfl⟩ := h1
      simp
      refine hR _ _ ?_
      simp [X19]
    | some n =>
      rw [hg] at h1 hR hN
      obtain ⟨bs, rfl, rfl⟩ := h1
      simp
      refine hR _ _ ?_
      simp [X19]
  · simp [X19, he]
    refine hR _ _ ?_
    simp [X19, legal, he]
end Go.Proofs.Yteafgpjhgefiiaa.S
