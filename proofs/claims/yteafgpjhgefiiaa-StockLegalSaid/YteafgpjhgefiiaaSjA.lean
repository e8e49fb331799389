/-
  Chapter 30: the reference's matching.
-/
import Derived.Test.YteafgpjhgefiiaaSgA
namespace Go.Proofs.Yteafgpjhgefiiaa.S
set_option linter.unusedSimpArgs false
set_option linter.unusedVariables false
set_option linter.unusedSectionVars false
open Go.Proofs.Yteafgpjhgefiiaa.Am
set_option maxHeartbeats 2000000
/-- a list of numbers that is nil when there is nothing in it -/
def NI (l : List Int) : PV := if l = [] then .nils else .uslc (l.map I)
def il (l : List Int) : PV := if l = [] then .nils else .own 6 1 l.length 1 0 l.length
def ilR (l : List Int) : Row := if l = [] then (0, .dead) else (1, .arr 1 0 false (l.map I))
theorem pickG_ge (u : List Int) (x : Nat) : ∀ (s : List Nat) (i : Nat), -1 ≤ pickG u x i s ∧ pickG u x i s < i + s.length
  | [], i => by simp [pickG]; omega
  | a :: r, i => by
    have := pickG_ge u x r (i + 1)
    unfold pickG; split <;> simp <;> omega
theorem miss_le (l : List Int) : miss l ≤ l.length := List.countP_le_length
theorem il_cases (o : List Int) : (o = [] ∧ il o = .nils ∧ ilR o = (0, .dead)) ∨ (o ≠ [] ∧ il o = .own 6 1 o.length 1 0 o.length ∧ ilR o = (1, .arr 1 0 false (o.map I))) := by
  by_cases h : o = []
  · exact .inl ⟨h, by simp [il, h], by simp [ilR, h]⟩
  · exact .inr ⟨h, by simp [il, h], by simp [ilR, h]⟩
theorem RMatch_fn (s w : List Nat) (hs : Pl s) (hw : Pl w) : Am.Fn Try.prog 13 [1, 0] [PL s, PL w] (.agg [NI (froms s w), I (miss (froms s w))]) := by
  refine fn_introX mixed (X := X13) c13 7 (by simp [X13]) fun Q hR hN => ?_
  have hl := hs.n
  have hlw := hw.n
  simp [X13]
  refine loopX (fun (k : Nat) vs h => k ≤ w.length ∧ ∃ o : List Int, o = froms s (w.take k) ∧ o.length = k ∧ vs = [PL s, PL w, .ptr 4 1 0, .ptr 5 1 0, I k, .undef, .undef, .undef, .undef, .undef, .undef] ∧ h = [(0, .dead), (0, .dead), (0, .dead), (0, .dead), (1, .var [.nils, I 0]), (1, .var [il o, I (miss o)]), ilR o]) (fun k => w.length - k) 0 ?_ ?_
  · simp [froms, fromG, miss]
    exact ⟨rfl, rfl⟩
  · rintro k vs h ⟨h1, o, h2, h3, rfl, rfl⟩ Q hK hX hR'
    have hmo := miss_le o
    by_cases hk : k < w.length
    · have hwk : IntKind.i64.wrap ((k : Int) + 1) = ((k + 1 : Nat) : Int) := wrap_ok (by omega) (by omega)
      have hx := hw.k _ (List.getElem_mem hk)
      have e : froms s (w.take (k + 1)) = o ++ [pick s o w[k]] := by
        rw [List.take_succ_eq_append_getElem hk, froms_snoc, h2]
      have hwl : IntKind.i64.wrap ((s.length : Int) - 1) = (s.length : Int) - 1 := wrap_ok (by omega) (by omega)
      have hoT : List.take k (List.map (PV.int .i64) o) = List.map (PV.int .i64) o := List.take_of_length_le (by simp [h3])
      have hcap : (k + 1) * 8 ≤ 140737488355328 := by omega
      have hwm : IntKind.i64.wrap ((miss o : Int) + 1) = (miss o : Int) + 1 := wrap_ok (by omega) (by omega)
      rcases il_cases o with ⟨ho, q1, q2⟩ | ⟨ho, q1, q2⟩
      · subst ho
        simp [hk, q1, q2, hwl, h3]
        refine loopX (fun (i : Nat) vs h => i ≤ s.length ∧ vs = [PL s, PL w, .ptr 4 1 0, .ptr 5 1 0, I k, I (pickG [] w[k] i (s.drop i)), I ((i : Int) - 1), .undef, .undef, .undef, .undef] ∧ h = [(0, .dead), (0, .dead), (0, .dead), (0, .dead), (1, .var [.nils, I 0]), (1, .var [.nils, I (miss [])]), (0, .dead)]) (fun i => i) s.length ?_ ?_
        · simp [pickG, h3]
        · rintro i vs h ⟨g1, rfl, rfl⟩ Q2 hK2 hX2 hR2
          cases i with
          | zero =>
            simp
            refine hX2 _ _ _ ?_
            have hpg := pickG_ge [] w[k] s 0
            unfold pick at e
            generalize pickG [] w[k] 0 s = p at e hpg
            by_cases hp : p < 0
            · have hme : miss ([] ++ [p]) = miss [] + 1 := by simp [miss, List.countP_append, hp]
              simp [hp, hwm, hcap, h3]
              refine hK (k + 1) _ _ (by omega) ?_
              simp [h3, hwk]
              rw [e]
              exact ⟨by omega, by simp [← h3], ⟨by simp [il, ← h3], by rw [hme] <;> simp⟩, by simp [ilR]⟩
            · have hme : miss ([] ++ [p]) = miss [] := by simp [miss, List.countP_append, hp]
              simp [hp, hcap, h3]
              refine hK (k + 1) _ _ (by omega) ?_
              simp [h3, hwk]
              rw [e]
              exact ⟨by omega, by simp [← h3], ⟨by simp [il, ← h3], by rw [hme] <;> simp⟩, by simp [ilR]⟩
          | succ j =>
            have hj : j < s.length := by omega
            have hwj : IntKind.i64.wrap ((j : Int) - 1) = (j : Int) - 1 := wrap_ok (by omega) (by omega)
            have hd : (List.drop (j + 1) s) = (List.drop (j + 1) s) := rfl
            have hpj := pickG_ge [] w[k] (s.drop (j + 1)) (j + 1)
            have hst : pickG [] w[k] j (s.drop j) = if (j : Int) ∉ [] ∧ s[j] = w[k] then (j : Int) else pickG [] w[k] (j + 1) (s.drop (j + 1)) := by
              rw [List.drop_eq_getElem_cons hj, pickG]
            simp [h3, hoT]
            refine call_of (Has_fn [] j (by unfold maxLen; omega)) ?_
            by_cases t1 : (j : Int) ∈ []
            · rw [if_neg (fun hh => hh.1 t1)] at hst
              simp [t1, hwj]
              refine hK2 j _ _ (by omega) ?_
              simp [hst, h3]
              omega
            · simp [t1, hj, hk]
              refine call_of (REqP_fn (hs.k _ (List.getElem_mem hj)) hx) ?_
              by_cases t2 : s[j] = w[k]
              · rw [if_pos ⟨t1, t2⟩] at hst
                simp [t2, hwj]
                refine hK2 j _ _ (by omega) ?_
                simp [hst, h3]
                omega
              · rw [if_neg (fun hh => t2 hh.2)] at hst
                simp [t2, hwj]
                refine hK2 j _ _ (by omega) ?_
                simp [hst, h3]
                omega
      · simp [hk, q1, q2, hwl, h3]
        refine loopX (fun (i : Nat) vs h => i ≤ s.length ∧ vs = [PL s, PL w, .ptr 4 1 0, .ptr 5 1 0, I k, I (pickG o w[k] i (s.drop i)), I ((i : Int) - 1), .undef, .undef, .undef, .undef] ∧ h = [(0, .dead), (0, .dead), (0, .dead), (0, .dead), (1, .var [.nils, I 0]), (1, .var [.own 6 1 k 1 0 k, I (miss o)]), (1, .arr 1 0 false (o.map I))]) (fun i => i) s.length ?_ ?_
        · simp [pickG, h3]
        · rintro i vs h ⟨g1, rfl, rfl⟩ Q2 hK2 hX2 hR2
          cases i with
          | zero =>
            simp
            refine hX2 _ _ _ ?_
            have hpg := pickG_ge o w[k] s 0
            unfold pick at e
            generalize pickG o w[k] 0 s = p at e hpg
            by_cases hp : p < 0
            · have hme : miss (o ++ [p]) = miss o + 1 := by simp [miss, List.countP_append, hp]
              simp [hp, hwm, hcap, h3]
              refine hK (k + 1) _ _ (by omega) ?_
              simp [h3, hwk]
              rw [e]
              exact ⟨by omega, by simp [← h3], ⟨by simp [il, ← h3], by rw [hme] <;> simp⟩, by simp [ilR]⟩
            · have hme : miss (o ++ [p]) = miss o := by simp [miss, List.countP_append, hp]
              simp [hp, hcap, h3]
              refine hK (k + 1) _ _ (by omega) ?_
              simp [h3, hwk]
              rw [e]
              exact ⟨by omega, by simp [← h3], ⟨by simp [il, ← h3], by rw [hme] <;> simp⟩, by simp [ilR]⟩
          | succ j =>
            have hj : j < s.length := by omega
            have hwj : IntKind.i64.wrap ((j : Int) - 1) = (j : Int) - 1 := wrap_ok (by omega) (by omega)
            have hd : (List.drop (j + 1) s) = (List.drop (j + 1) s) := rfl
            have hpj := pickG_ge o w[k] (s.drop (j + 1)) (j + 1)
            have hst : pickG o w[k] j (s.drop j) = if (j : Int) ∉ o ∧ s[j] = w[k] then (j : Int) else pickG o w[k] (j + 1) (s.drop (j + 1)) := by
              rw [List.drop_eq_getElem_cons hj, pickG]
            simp [h3, hoT]
            refine call_of (Has_fn o j (by unfold maxLen; omega)) ?_
            by_cases t1 : (j : Int) ∈ o
            · rw [if_neg (fun hh => hh.1 t1)] at hst
              simp [t1, hwj]
              refine hK2 j _ _ (by omega) ?_
              simp [hst, h3]
              omega
            · simp [t1, hj, hk]
              refine call_of (REqP_fn (hs.k _ (List.getElem_mem hj)) hx) ?_
              by_cases t2 : s[j] = w[k]
              · rw [if_pos ⟨t1, t2⟩] at hst
                simp [t2, hwj]
                refine hK2 j _ _ (by omega) ?_
                simp [hst, h3]
                omega
              · rw [if_neg (fun hh => t2 hh.2)] at hst
                simp [t2, hwj]
                refine hK2 j _ _ (by omega) ?_
                simp [hst, h3]
                omega
    · obtain rfl : k = w.length := by omega
      simp
      refine hX _ _ _ ?_
      rw [List.take_length] at h2
      rcases il_cases o with ⟨ho, q1, q2⟩ | ⟨ho, q1, q2⟩
      · subst ho
        simp [q1, q2]
        refine hR _ _ ?_
        simp [X13, NI, ← h2]
      · simp [q1, q2]
        refine hR _ _ ?_
        simp [X13, NI, ← h2, ho]
end Go.Proofs.Yteafgpjhgefiiaa.S
