/-
  Chapter 30: what is left of the stock.
-/
import Derived.Test.YteafgpjhgefiiaaSgA
namespace Go.Proofs.Yteafgpjhgefiiaa.S
set_option linter.unusedSimpArgs false
set_option linter.unusedVariables false
set_option linter.unusedSectionVars false
open Go.Proofs.Yteafgpjhgefiiaa.Am
set_option maxHeartbeats 2000000
theorem takeG_le (u : List Int) : ∀ (l : List Nat) (i : Nat), (takeG u i l).length ≤ l.length
  | [], i => Nat.le_refl _
  | a :: r, i => by
    have := takeG_le u r (i + 1)
    unfold takeG; split <;> simp <;> omega
theorem RTake_fn (s : List Nat) (u : List Int) (m : Int) (hs : Pl s) (hu : u.length ≤ maxLen) : Am.Fn Try.prog 17 [4] [PL s, MT u m] (UL (take s u)) := by
  refine fn_introX mixed (X := X17) c17 6 (by simp [X17]) fun Q hR hN => ?_
  simp [X17]
  refine loopX (fun (k : Nat) vs h => k ≤ s.length ∧ ∃ o : List Nat, o.length ≤ k ∧ take s u = o ++ takeG u k (s.drop k) ∧ vs = [PL s, .undef, .ptr 4 1 0, .undef, .own 5 1 o.length 4 0 o.length, I k, .undef, .undef] ∧ h = [(0, .dead), (0, .dead), (0, .dead), (0, .dead), (1, .var [IL u, I m]), (1, .arr 4 0 false (o.map plC))]) (fun k => s.length - k) 0 ?_ ?_
  · simp [take]
  · rintro k vs h ⟨h1, o, h2, h3, rfl, rfl⟩ Q hK hX hR'
    have hl := hs.n
    by_cases hk : k < s.length
    · have hw : IntKind.i64.wrap ((k : Int) + 1) = ((k + 1 : Nat) : Int) := wrap_ok (by omega) (by omega)
      have hc : (o.length + 1) * 64 ≤ 140737488355328 := by omega
      rw [List.drop_eq_getElem_cons hk, takeG] at h3
      simp [hk]
      refine call_of (Has_fn u k hu) ?_
      by_cases he : (k : Int) ∈ u
      · rw [if_pos he] at h3
        simp [he, hw]
        refine hK (k + 1) _ _ (by omega) ?_
        simp
        exact ⟨by omega, o, by omega, h3, by simp⟩
      · rw [if_neg he] at h3
        simp [he, hw, hk, hc]
        refine hK (k + 1) _ _ (by omega) ?_
        simp
        exact ⟨by omega, o ++ [s[k]], by simp; omega, by rw [h3]; simp, by simp⟩
    · rw [List.drop_eq_nil_of_le (by omega), takeG, List.append_nil] at h3
      simp [hk]
      refine hX _ _ _ ?_
      simp
      refine hR _ _ ?_
      simp [X17, h3]
/-- a list that is nil when there is nothing in it -/
def NL (l : List Nat) : PV := if l = [] then .nils else UL l
def nl (l : List Nat) : PV := if l = [] then .nils else .own 6 1 l.length 4 0 l.length
def nlR (l : List Nat) : Row := if l = [] then (0, .dead) else (1, .arr 4 0 false (l.map plC))
theorem Take_fn (s : List Nat) (u : List Int) (m : Int) (hs : Pl s) (hu : u.length ≤ maxLen) (hb : ∀ i ∈ u, -9223372036854775808 ≤ i ∧ i < 9223372036854775808) : Am.Fn Try.prog 16 [4] [PL s, MT u m] (NL (take s u)) := by
  refine fn_introX mixed (X := X16) c16 7 (by simp [X16]) fun Q hR hN => ?_
  have hl := hs.n
  have hul := hu
  unfold maxLen at hul
  have hc1 : (s.length : Int) ≤ 140737488355328 := by omega
  have hc2 : (s.length : Int) ≤ 9223372036854775807 := by omega
  simp [X16, hc1, hc2]
  refine loopX (fun (k : Nat) vs h => k ≤ u.length ∧ ∃ bs : List Bool, bs.length = s.length ∧ (∀ j, j < s.length → bs[j]?.getD false = decide ((j : Int) ∈ u.take k)) ∧ vs = [PL s, .undef, .undef, .undef, .own 5 1 s.length 1 0 s.length, .undef, .undef, .undef, .undef, IL u, I u.length, I k, .undef, .undef, .undef, .undef, .undef, .undef, .undef] ∧ h = [(0, .dead), (0, .dead), (0, .dead), (0, .dead), (0, .dead), (1, .arr 1 0 false (bs.map .bool)), (0, .dead)]) (fun k => u.length - k) 0 ?_ ?_
  · simp
    exact ⟨List.replicate s.length false, by simp, fun j hj => by simp [List.getD, hj], by simp⟩
  · rintro k vs h ⟨h1, bs, h2, h3, rfl, rfl⟩ Q hK hX hR'
    by_cases hk : k < u.length
    · have hw : IntKind.i64.wrap ((k : Int) + 1) = ((k + 1 : Nat) : Int) := wrap_ok (by omega) (by omega)
      have hbk := hb _ (List.getElem_mem hk)
      by_cases t1 : 0 ≤ u[k]
      · obtain ⟨j, hj⟩ : ∃ j : Nat, u[k] = j := ⟨u[k].toNat, by omega⟩
        by_cases t2 : j < s.length
        · have hs2 : IntKind.i64.wrap (j : Int) = j := wrap_ok (by omega) (by omega)
          simp [hk, hj, t2, hw, hs2, h2]
          refine hK (k + 1) _ _ (by omega) ?_
          simp [h2]
          refine ⟨by omega, bs.set j true, by simp [h2], fun i hi => ?_, ?_⟩
          rotate_left
          · rw [← List.map_set]; simp
          have := h3 i hi
          rw [List.take_succ_eq_append_getElem hk, hj]
          by_cases e : i = j
          · subst e; simp [List.getElem?_set, h2, hi]
          · rw [List.getElem?_set_ne (Ne.symm e), this]
            apply decide_eq_decide.2
            simp only [List.mem_append, List.mem_singleton]
            constructor
            · exact .inl
            · rintro (h | h)
              · exact h
              · omega
        · simp [hk, hj, t2, hw]
          refine hK (k + 1) _ _ (by omega) ?_
          simp [h2]
          refine ⟨by omega, bs, h2, fun i hi => ?_, by simp⟩
          rw [h3 i hi, List.take_succ_eq_append_getElem hk, hj]
          apply decide_eq_decide.2
          simp only [List.mem_append, List.mem_singleton]
          constructor
          · exact .inl
          · rintro (h | h)
            · exact h
            · omega
      · simp [hk, t1, hw]
        refine hK (k + 1) _ _ (by omega) ?_
        simp [h2]
        refine ⟨by omega, bs, h2, fun i hi => ?_, by simp⟩
        rw [h3 i hi, List.take_succ_eq_append_getElem hk]
        apply decide_eq_decide.2
        simp only [List.mem_append, List.mem_singleton]
        constructor
        · exact .inl
        · rintro (h | h)
          · exact h
          · omega
    · have h3' : ∀ j, j < s.length → bs[j]?.getD false = decide ((j : Int) ∈ u) := fun j hj => by
        rw [h3 j hj, List.take_of_length_le (by omega)]
      simp [hk]
      refine hX _ _ _ ?_
      simp
      refine loopX (fun (k : Nat) vs h => k ≤ s.length ∧ ∃ o : List Nat, o.length ≤ k ∧ take s u = o ++ takeG u k (s.drop k) ∧ vs = [.undef, .undef, .undef, .undef, .own 5 1 s.length 1 0 s.length, .undef, nl o, .undef, .undef, .undef, .undef, .undef, .undef, .undef, PL s, I s.length, I k, .undef, .undef] ∧ h = [(0, .dead), (0, .dead), (0, .dead), (0, .dead), (0, .dead), (1, .arr 1 0 false (bs.map .bool)), nlR o]) (fun k => s.length - k) 0 ?_ ?_
      · simp
        simp [take]
        exact ⟨rfl, rfl⟩
      · rintro k vs h ⟨h1, o, g1, g2, rfl, rfl⟩ Q hK hX hR'
        have hn0 : nl [] = .nils := rfl
        have hn1 : nlR [] = (0, .dead) := rfl
        by_cases hk : k < s.length
        · have hw : IntKind.i64.wrap ((k : Int) + 1) = ((k + 1 : Nat) : Int) := wrap_ok (by omega) (by omega)
          have hc : (o.length + 1) * 64 ≤ 140737488355328 := by omega
          have hg := h3' k hk
          have hkb : k < bs.length := by omega
          have hgb : bs[k]?.getD false = bs[k] := by simp [hkb]
          rw [hgb] at hg
          rw [List.drop_eq_getElem_cons hk, takeG] at g2
          by_cases he : (k : Int) ∈ u
          · rw [if_pos he] at g2
            have hg' : bs[k] = true := by rw [hg]; simpa using he
            simp [hk, hkb, h2, hw, hg']
            refine hK (k + 1) _ _ (by omega) ?_
            by_cases ho : o = []
            · subst ho
              simp [hn0, hn1, h2]
              exact ⟨by omega, [], by simp, g2, rfl, rfl⟩
            · have q1 : nl o = .own 6 1 o.length 4 0 o.length := by simp [nl, ho]
              have q2 : nlR o = (1, .arr 4 0 false (o.map plC)) := by simp [nlR, ho]
              simp [q1, q2, h2]
              exact ⟨by omega, o, by omega, g2, by simp [q1], by simp [q2]⟩
          · rw [if_neg he] at g2
            have hg' : bs[k] = false := by rw [hg]; simpa using he
            by_cases ho : o = []
            · subst ho
              simp [hk, hkb, h2, hw, hg', hn0, hn1]
              refine hK (k + 1) _ _ (by omega) ?_
              simp [h2]
              refine ⟨by omega, [s[k]], by simp, by rw [g2]; simp, by simp [nl], by simp [nlR]⟩
            · have q1 : nl o = .own 6 1 o.length 4 0 o.length := by simp [nl, ho]
              have q2 : nlR o = (1, .arr 4 0 false (o.map plC)) := by simp [nlR, ho]
              simp [hk, hkb, h2, hw, hg', q1, q2, hc]
              refine hK (k + 1) _ _ (by omega) ?_
              simp [h2]
              refine ⟨by omega, o ++ [s[k]], by simp; omega, by rw [g2]; simp, by simp [nl], by simp [nlR]⟩
        · rw [List.drop_eq_nil_of_le (by omega), takeG, List.append_nil] at g2
          simp [hk]
          refine hX _ _ _ ?_
          simp
          refine hR _ _ ?_
          by_cases ho : o = []
          · subst ho
            simp [X16, hn0, hn1, NL, g2]
          · have q1 : nl o = .own 6 1 o.length 4 0 o.length := by simp [nl, ho]
            have q2 : nlR o = (1, .arr 4 0 false (o.map plC)) := by simp [nlR, ho]
            simp [X16, q1, q2, NL, g2, ho]
end Go.Proofs.Yteafgpjhgefiiaa.S
