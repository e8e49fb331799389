/-
  Chapter 30: Legal agrees with the definition.
-/
import Derived.Test.YteafgpjhgefiiaaSrA
namespace Go.Proofs.Yteafgpjhgefiiaa.S
set_option linter.unusedSimpArgs false
set_option linter.unusedVariables false
set_option linter.unusedSectionVars false
open Go.Proofs.Yteafgpjhgefiiaa.Am
set_option maxHeartbeats 4000000
def fm (l : List Int) : PV := if l = [] then .nils else .own 15 1 l.length 1 0 l.length
theorem fm_cases (o : List Int) : (o = [] ∧ fm o = .nils ∧ ilR o = (0, .dead)) ∨ (o ≠ [] ∧ fm o = .own 15 1 o.length 1 0 o.length ∧ ilR o = (1, .arr 1 0 false (o.map I))) := by
  by_cases h : o = []
  · exact .inl ⟨h, by simp [fm, h], by simp [ilR, h]⟩
  · exact .inr ⟨h, by simp [fm, h], by simp [ilR, h]⟩
/-- how many places are -1 -/
def ones (l : List Int) : Nat := l.countP (· = -1)
theorem ones_snoc (l : List Int) (x : Int) : ones (l ++ [x]) = ones l + if x = -1 then 1 else 0 := by
  unfold ones; rw [List.countP_append]; simp [List.countP_cons]
theorem ones_le (l : List Int) : ones l ≤ l.length := List.countP_le_length
theorem idx_ok (x : Int) (n : Nat) (h : 0 < n) (hn : n ≤ 100) : ∃ j : Nat, (IntKind.i64.wrap (IntKind.u8.wrap x)).tmod n = j ∧ j < n := by
  have hu : ∃ m : Nat, IntKind.u8.wrap x = m ∧ m < 256 := by
    have h1 : IntKind.u8.wrap x = x % 256 := by simp [IntKind.wrap, IntKind.bits, IntKind.signed]
    exact ⟨(x % 256).toNat, by rw [h1]; omega, by omega⟩
  obtain ⟨m, hm, h2⟩ := hu
  rw [hm, wrap_ok (n := (m : Int)) (by omega) (by omega), Int.tmod_eq_emod_of_nonneg (by omega), show (m : Int) % n = ((m % n : Nat) : Int) by push_cast; rfl]
  have := Nat.mod_lt m h
  exact ⟨m % n, rfl, this⟩
theorem LegalLaw_fn (a b l : List Int) (ha : a.length ≤ maxLen) (hb : b.length ≤ maxLen) (hl : l.length ≤ maxLen) (hA : ∀ x ∈ a, 0 ≤ x ∧ x < 256) (hB : ∀ x ∈ b, 0 ≤ x ∧ x < 256) (hL : ∀ x ∈ l, -128 ≤ x ∧ x ≤ 127) :
    Am.Fn Try.prog 9 [0] [BL a, BL b, .slc (l.map I8)] (.bool true) := by
  have cA := Plates_fn a 10 hA ha (by omega)
  have cB := Plates_fn b 10 hB hb (by omega)
  have oA := kinds_ok a 10 (by omega)
  have oB := kinds_ok b 10 (by omega)
  generalize kinds (a.take 10) = s at cA oA
  generalize kinds (b.take 10) = w at cB oB
  have hwn := oB.n
  have hM := RMatchU_fn s w oA oB
  have hlo := froms_len s w
  have hol : (froms s w).length ≤ maxLen := by rw [hlo]; unfold maxLen; omega
  have hL0 := Legal_fn s w (froms s w) (miss (froms s w)) oA oB hol (froms_bound oA w)
  rw [legal_froms] at hL0
  have hob := froms_bound oA w
  have hmo := miss_le (froms s w)
  rw [hlo] at hmo
  generalize froms s w = o at hM hlo hol hL0 hob hmo
  have hend : ∀ f : List Int, f.length ≤ 12 → (∀ x ∈ f, x ∈ l) → Am.Fn Try.prog 19 [0] [PL s, PL w, MT f (ones f)] (.bool (legal s w f (ones f))) ∧ Am.Fn Try.prog 18 [0] [PL s, PL w, MT f (ones f)] (.bool (legal s w f (ones f))) := fun f h1 h2 =>
    ⟨Legal_fn s w f _ oA oB (by unfold maxLen; omega) (fun i hi => by have := hL i (h2 i hi); omega), RLegal_fn s w f _ oA oB (by unfold maxLen; omega) (fun i hi => by have := hL i (h2 i hi); omega)⟩
  obtain ⟨hC1, hC2⟩ := (⟨Legal_fn s w o (miss o) oA oB hol hob, RLegal_fn s w o (miss o) oA oB hol hob⟩ : Am.Fn Try.prog 19 [0] [PL s, PL w, MT o (miss o)] (.bool (legal s w o (miss o))) ∧ Am.Fn Try.prog 18 [0] [PL s, PL w, MT o (miss o)] (.bool (legal s w o (miss o))))
  have hset : ∀ (j : Nat) (v : Int), (-128 ≤ v ∧ v ≤ 127) → Am.Fn Try.prog 19 [0] [PL s, PL w, .agg [.slc ((o.map I).set j (I v)), I ((miss o : Int) + (l.length : Int) % 3)]] (.bool (legal s w (o.set j v) ((miss o : Int) + (l.length : Int) % 3))) ∧ Am.Fn Try.prog 18 [0] [PL s, PL w, .agg [.slc ((o.map I).set j (I v)), I ((miss o : Int) + (l.length : Int) % 3)]] (.bool (legal s w (o.set j v) ((miss o : Int) + (l.length : Int) % 3))) := fun j v hv => by
    have hb2 : ∀ i ∈ o.set j v, -9223372036854775808 ≤ i ∧ i < 9223372036854775808 := fun i hi => by
      rcases List.mem_or_eq_of_mem_set hi with h | h
      · exact hob i h
      · omega
    have h1 := Legal_fn s w (o.set j v) ((miss o : Int) + (l.length : Int) % 3) oA oB (by simpa using hol) hb2
    have h2 := RLegal_fn s w (o.set j v) ((miss o : Int) + (l.length : Int) % 3) oA oB (by simpa using hol) hb2
    simp only [MT, IL, List.map_set] at h1 h2
    exact ⟨h1, h2⟩
  have hm1 : IntKind.i64.wrap (-1) = -1 := wrap_ok (by omega) (by omega)
  have hoT : List.take w.length (List.map (PV.int .i64) o) = List.map (PV.int .i64) o := List.take_of_length_le (by simp [hlo])
  have hwn8 : w.length * 8 ≤ 140737488355328 := by omega
  have hwm : IntKind.i64.wrap ((miss o : Int) + (l.length : Int).tmod 3) = (miss o : Int) + (l.length : Int) % 3 := by
    rw [Int.tmod_eq_emod_of_nonneg (by omega), wrap_ok (by omega) (by omega)]
  have hjl : ∀ j : Nat, j < w.length → (j : Int) < w.length := fun j h => by omega
  refine fn_introX mixed (X := X9) c9 16 (by simp [X9]) fun Q hR hN => ?_
  simp [X9]
  refine call_of sanity_fn ?_
  simp
  refine call_of cA ?_
  simp
  refine call_of cB ?_
  simp [take_map]
  refine call_of hM ?_
  simp [take_map, hlo]
  refine loopX (fun (k : Nat) vs h => k ≤ l.length ∧ k ≤ 12 ∧ ∃ f : List Int, f = l.take k ∧ f.length = k ∧
    vs = [.undef, .undef, .slc (l.map I8), .undef, .bool true, .own 10 1 s.length 4 0 s.length, .own 11 1 w.length 4 0 w.length, .ptr 12 1 0, .ptr 13 1 0, I k, .undef, .undef, .undef, .undef, .undef] ∧
    h = [dd, dd, dd, dd, dd, dd, dd, dd, dd, dd, (1, .arr 4 0 true (s.map plC)), (1, .arr 4 0 true (w.map plC)), (1, .var [.own 14 1 w.length 1 0 w.length, I (miss o)]), (1, .var [fm f, I (ones f)]), (1, .arr 1 0 false (o.map I)), ilR f]) (fun k => l.length - k) 0 ?_ ?_
  · simp [hlo, fm, ones, ilR]
  · rintro k vs h ⟨h1, h2, f, h3, h4, rfl, rfl⟩ Q' hK hX hR'
    have hfl : ∀ x ∈ f, x ∈ l := fun x hx => List.mem_of_mem_take (by rw [h3] at hx; exact hx)
    obtain ⟨hF1, hF2⟩ := hend f (by omega) hfl
    have hof := ones_le f
    by_cases hk : k < l.length
    · by_cases hk2 : k < 12
      · have hw1 : IntKind.i64.wrap ((k : Int) + 1) = ((k + 1 : Nat) : Int) := wrap_ok (by omega) (by omega)
        have hwo : IntKind.i64.wrap ((ones f : Int) + 1) = ((ones f + 1 : Nat) : Int) := wrap_ok (by omega) (by omega)
        have hx := hL _ (List.getElem_mem hk)
        have hwx : IntKind.i64.wrap l[k] = l[k] := wrap_ok (by omega) (by omega)
        have hcap : (k + 1) * 8 ≤ 140737488355328 := by omega
        have e : l.take (k + 1) = f ++ [l[k]] := by rw [List.take_succ_eq_append_getElem hk, h3]
        have hki : (k : Int) < 12 := by omega
        by_cases t : l[k] = -1
        · have eo : ones (f ++ [l[k]]) = ones f + 1 := by rw [ones_snoc, if_pos t]
          rcases fm_cases f with ⟨q0, q1, q2⟩ | ⟨q0, q1, q2⟩
          · subst q0
            simp [hk, hk2, hki, q1, q2, hwx, hw1, t, hwo, hm1]
            refine hK (k + 1) _ _ (by omega) ?_
            simp
            have h4' : k = 0 := by simpa using h4.symm
            subst h4'
            rw [e, eo]
            exact ⟨by omega, by omega, by omega, by simp [fm, t], by simp [ilR, t]⟩
          · simp [hk, hk2, hki, q1, q2, hwx, hw1, h4, hcap, t, hwo, hm1]
            refine hK (k + 1) _ _ (by omega) ?_
            simp [h4]
            rw [e, eo]
            exact ⟨by omega, by omega, by omega, by simp [fm, h4], by simp [ilR, t]⟩
        · have eo : ones (f ++ [l[k]]) = ones f := by rw [ones_snoc, if_neg t]; rfl
          rcases fm_cases f with ⟨q0, q1, q2⟩ | ⟨q0, q1, q2⟩
          · subst q0
            simp [hk, hk2, hki, q1, q2, hwx, hw1, t, hwo, hm1]
            refine hK (k + 1) _ _ (by omega) ?_
            simp
            have h4' : k = 0 := by simpa using h4.symm
            subst h4'
            rw [e, eo]
            exact ⟨by omega, by omega, by omega, by simp [fm], by simp [ilR]⟩
          · simp [hk, hk2, hki, q1, q2, hwx, hw1, h4, hcap, t, hwo, hm1]
            refine hK (k + 1) _ _ (by omega) ?_
            simp [h4]
            rw [e, eo]
            exact ⟨by omega, by omega, by omega, by simp [fm, h4], by simp [ilR]⟩
      · have hki : ¬ (k : Int) < 12 := by omega
        rcases fm_cases f with ⟨q0, q1, q2⟩ | ⟨q0, q1, q2⟩
        · subst q0
          exact absurd h4.symm (by simp; omega)
        · simp [hk, hk2, hki, q1, q2]
          refine hX _ _ _ ?_
          by_cases hw0 : 0 < w.length
          · by_cases hl1 : 1 < l.length
            · have hx0 := hL _ (List.getElem_mem (show 0 < l.length by omega))
              have hx1 := hL _ (List.getElem_mem hl1)
              obtain ⟨j, hj1, hj2⟩ := idx_ok l[0] w.length hw0 hwn
              have hwx : IntKind.i64.wrap l[1] = l[1] := wrap_ok (by omega) (by omega)
              have hl0 : 0 < l.length := by omega
              have hwne : w ≠ [] := fun e => by simp [e] at hw0
              have hl1' : (1 : Int) < l.length := by omega
              obtain ⟨hC1, hC2⟩ := hset j l[1] (by omega)
              have hs1 : ∀ x, x ∈ (List.map (PV.int .i64) o).set j (PV.int .i64 l[1]) → noRefE x = true := fun x hx => by
                rcases List.mem_or_eq_of_mem_set hx with h | h
                · obtain ⟨y, _, rfl⟩ := List.mem_map.1 h; rfl
                · subst h; rfl
              have hs2 : List.take w.length ((List.map (PV.int .i64) o).set j (PV.int .i64 l[1])) = (List.map (PV.int .i64) o).set j (PV.int .i64 l[1]) := List.take_of_length_le (by simp [hlo])
              simp [take_map, hlo, hwn8, hoT, hw0, hl1, hl1', hl0, hwne, hj1, hj2, hwx, hwm, hjl j hj2]
              refine call_of hL0 ?_
              simp [take_map, hlo, hoT]
              refine call_of hF1 ?_
              simp [take_map, hlo, hoT]
              refine call_of hF2 ?_
              simp [take_map, hlo, hoT]
              rw [if_pos hs1, hs2]
              refine call_of hC1 ?_
              simp [take_map, hlo, hoT]
              rw [if_pos hs1, hs2]
              refine call_of hC2 ?_
              simp
              refine hR _ _ ?_
              simp [X9]
            · have hl1' : ¬ (1 : Int) < l.length := by omega
              simp [take_map, hlo, hwn8, hoT, hw0, hl1, hl1']
              refine call_of hL0 ?_
              simp [take_map, hlo, hoT]
              refine call_of hF1 ?_
              simp [take_map, hlo, hoT]
              refine call_of hF2 ?_
              simp [take_map, hlo, hoT]
              refine call_of hC1 ?_
              simp [take_map, hlo, hoT]
              refine call_of hC2 ?_
              simp
              refine hR _ _ ?_
              simp [X9]
          · simp [take_map, hlo, hwn8, hoT, hw0]
            refine call_of hL0 ?_
            simp [take_map, hlo, hoT]
            refine call_of hF1 ?_
            simp [take_map, hlo, hoT]
            refine call_of hF2 ?_
            simp [take_map, hlo, hoT]
            refine call_of hC1 ?_
            simp [take_map, hlo, hoT]
            refine call_of hC2 ?_
            simp
            refine hR _ _ ?_
            simp [X9]
    · rcases fm_cases f with ⟨q0, q1, q2⟩ | ⟨q0, q1, q2⟩
      · subst q0
        simp [hk, q1, q2]
        · refine hX _ _ _ ?_
          by_cases hw0 : 0 < w.length
          · by_cases hl1 : 1 < l.length
            · have hx0 := hL _ (List.getElem_mem (show 0 < l.length by omega))
              have hx1 := hL _ (List.getElem_mem hl1)
              obtain ⟨j, hj1, hj2⟩ := idx_ok l[0] w.length hw0 hwn
              have hwx : IntKind.i64.wrap l[1] = l[1] := wrap_ok (by omega) (by omega)
              have hl0 : 0 < l.length := by omega
              have hwne : w ≠ [] := fun e => by simp [e] at hw0
              have hl1' : (1 : Int) < l.length := by omega
              obtain ⟨hC1, hC2⟩ := hset j l[1] (by omega)
              have hs1 : ∀ x, x ∈ (List.map (PV.int .i64) o).set j (PV.int .i64 l[1]) → noRefE x = true := fun x hx => by
                rcases List.mem_or_eq_of_mem_set hx with h | h
                · obtain ⟨y, _, rfl⟩ := List.mem_map.1 h; rfl
                · subst h; rfl
              have hs2 : List.take w.length ((List.map (PV.int .i64) o).set j (PV.int .i64 l[1])) = (List.map (PV.int .i64) o).set j (PV.int .i64 l[1]) := List.take_of_length_le (by simp [hlo])
              simp [take_map, hlo, hwn8, hoT, hw0, hl1, hl1', hl0, hwne, hj1, hj2, hwx, hwm, hjl j hj2]
              refine call_of hL0 ?_
              simp [take_map, hlo, hoT]
              refine call_of hF1 ?_
              simp [take_map, hlo, hoT]
              refine call_of hF2 ?_
              simp [take_map, hlo, hoT]
              rw [if_pos hs1, hs2]
              refine call_of hC1 ?_
              simp [take_map, hlo, hoT]
              rw [if_pos hs1, hs2]
              refine call_of hC2 ?_
              simp
              refine hR _ _ ?_
              simp [X9]
            · have hl1' : ¬ (1 : Int) < l.length := by omega
              simp [take_map, hlo, hwn8, hoT, hw0, hl1, hl1']
              refine call_of hL0 ?_
              simp [take_map, hlo, hoT]
              refine call_of hF1 ?_
              simp [take_map, hlo, hoT]
              refine call_of hF2 ?_
              simp [take_map, hlo, hoT]
              refine call_of hC1 ?_
              simp [take_map, hlo, hoT]
              refine call_of hC2 ?_
              simp
              refine hR _ _ ?_
              simp [X9]
          · simp [take_map, hlo, hwn8, hoT, hw0]
            refine call_of hL0 ?_
            simp [take_map, hlo, hoT]
            refine call_of hF1 ?_
            simp [take_map, hlo, hoT]
            refine call_of hF2 ?_
            simp [take_map, hlo, hoT]
            refine call_of hC1 ?_
            simp [take_map, hlo, hoT]
            refine call_of hC2 ?_
            simp
            refine hR _ _ ?_
            simp [X9]
      · simp [hk, q1, q2]
        · refine hX _ _ _ ?_
          by_cases hw0 : 0 < w.length
          · by_cases hl1 : 1 < l.length
            · have hx0 := hL _ (List.getElem_mem (show 0 < l.length by omega))
              have hx1 := hL _ (List.getElem_mem hl1)
              obtain ⟨j, hj1, hj2⟩ := idx_ok l[0] w.length hw0 hwn
              have hwx : IntKind.i64.wrap l[1] = l[1] := wrap_ok (by omega) (by omega)
              have hl0 : 0 < l.length := by omega
              have hwne : w ≠ [] := fun e => by simp [e] at hw0
              have hl1' : (1 : Int) < l.length := by omega
              obtain ⟨hC1, hC2⟩ := hset j l[1] (by omega)
              have hs1 : ∀ x, x ∈ (List.map (PV.int .i64) o).set j (PV.int .i64 l[1]) → noRefE x = true := fun x hx => by
                rcases List.mem_or_eq_of_mem_set hx with h | h
                · obtain ⟨y, _, rfl⟩ := List.mem_map.1 h; rfl
                · subst h; rfl
              have hs2 : List.take w.length ((List.map (PV.int .i64) o).set j (PV.int .i64 l[1])) = (List.map (PV.int .i64) o).set j (PV.int .i64 l[1]) := List.take_of_length_le (by simp [hlo])
              simp [take_map, hlo, hwn8, hoT, hw0, hl1, hl1', hl0, hwne, hj1, hj2, hwx, hwm, hjl j hj2]
              refine call_of hL0 ?_
              simp [take_map, hlo, hoT]
              refine call_of hF1 ?_
              simp [take_map, hlo, hoT]
              refine call_of hF2 ?_
              simp [take_map, hlo, hoT]
              rw [if_pos hs1, hs2]
              refine call_of hC1 ?_
              simp [take_map, hlo, hoT]
              rw [if_pos hs1, hs2]
              refine call_of hC2 ?_
              simp
              refine hR _ _ ?_
              simp [X9]
            · have hl1' : ¬ (1 : Int) < l.length := by omega
              simp [take_map, hlo, hwn8, hoT, hw0, hl1, hl1']
              refine call_of hL0 ?_
              simp [take_map, hlo, hoT]
              refine call_of hF1 ?_
              simp [take_map, hlo, hoT]
              refine call_of hF2 ?_
              simp [take_map, hlo, hoT]
              refine call_of hC1 ?_
              simp [take_map, hlo, hoT]
              refine call_of hC2 ?_
              simp
              refine hR _ _ ?_
              simp [X9]
          · simp [take_map, hlo, hwn8, hoT, hw0]
            refine call_of hL0 ?_
            simp [take_map, hlo, hoT]
            refine call_of hF1 ?_
            simp [take_map, hlo, hoT]
            refine call_of hF2 ?_
            simp [take_map, hlo, hoT]
            refine call_of hC1 ?_
            simp [take_map, hlo, hoT]
            refine call_of hC2 ?_
            simp
            refine hR _ _ ?_
            simp [X9]
end Go.Proofs.Yteafgpjhgefiiaa.S
