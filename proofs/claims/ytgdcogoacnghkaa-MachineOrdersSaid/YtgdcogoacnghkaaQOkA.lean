/-
  Chapter 27: troubles exchanged.
-/
import Derived.Test.YtgdcogoacnghkaaQOiA
namespace Go.Proofs.Ytgdcogoacnghkaa.N
set_option linter.unusedSimpArgs false
set_option linter.unusedVariables false
set_option linter.unusedSectionVars false
open Go.Proofs.Ytgdcogoacnghkaa.Am
set_option maxHeartbeats 4000000
abbrev P2 (a b : Int) : PV := .agg [U8 a, U8 b]
/-- is the law without force for the places a and b of T? -/
def Sk (T : List Tr) (a b n : Nat) : Prop := ∃ (h : n < T.length) (ha : a < T.length) (hb : b < T.length), a < n ∧ n ≤ b ∧ (T[n].pl = T[a].pl ∨ n < b ∧ T[n].pl = T[b].pl)
theorem make_congr {l l' : List Tr} (h : ∀ j, trAt l' j = trAt l j) (u d : List (List Bool)) (n : Nat) (w : List Int) : makeG u d n w l' = makeG u d n w l := run_congr h _ _ _
theorem make_swap {T : List Tr} {i k a b : Nat} (hi : i < T.length) (hk : k < T.length) (hab : (a = i ∧ b = k) ∨ (a = k ∧ b = i)) (hle : a ≤ b) (hs : ∀ n, n < T.length → ¬ Sk T a b n) (j : Nat) : trAt ((T.set i T[k]).set k T[i]) j = trAt T j := by
  have ha : a < T.length := by omega
  have hb : b < T.length := by omega
  by_cases e : a = b
  · have : i = k := by omega
    subst this
    rw [List.set_set]
    simp
  · have e1 : (T.set i T[k]).set k T[i] = (T.set a T[b]).set b T[a] := by
      rcases hab with ⟨rfl, rfl⟩ | ⟨rfl, rfl⟩
      · rfl
      · rw [List.set_comm _ _ (Ne.symm e)]
    rw [e1]
    refine swap_at (by omega) hb (fun n h n1 n2 e => hs n h ⟨h, ha, hb, n1, n2, .inl e⟩) (fun n h n1 n2 e => hs n h ⟨h, ha, hb, n1, by omega, .inr ⟨n2, e⟩⟩) j
theorem Orders_fn (x l : List (Int × Int × Int)) (c1 c2 : Int) (hx : ∀ p ∈ x, t8 p) (hl : ∀ p ∈ l, t8 p) (hc1 : b8 c1) (hc2 : b8 c2) : Am.Fn Try.prog 9 [0] [.agg [TL x], TL l, P2 c1 c2] (.bool true) := by
  obtain ⟨u, d, m, hMd⟩ := Made_fn x hx
  have hT := Troubles_fn l hl
  have tl := trs_len l
  generalize (l.take 5).map trOf = T at hT tl
  obtain ⟨fu, fd⟩ := m.frz
  have lu := m.lu
  have ld := m.ld
  by_cases hT2 : T.length < 2
  · have hT3 : (T.length : Int) < 2 := by omega
    refine fn_introX mixed (X := X9) c9 21 (by simp [X9]) fun Q hR hN => ?_
    simp [X9]
    refine call_of sanity_fn ?_
    simp
    refine call_of hMd ?_
    simp [lu, ld]
    refine call_of hT ?_
    simp [lu, ld, hT3]
    refine hR _ _ ?_
    simp [X9]
  have hT3 : ¬ (T.length : Int) < 2 := by omega
  have hT0 : ¬ T.length = 0 := by omega
  obtain ⟨i, hi, hi2⟩ : ∃ i : Nat, c1.tmod (T.length : Int) = i ∧ i < T.length := by
    rw [Int.tmod_eq_emod_of_nonneg hc1.1]
    have h1 := Int.emod_nonneg c1 (b := (T.length : Int)) (by omega)
    have h2 := Int.emod_lt_of_pos c1 (b := (T.length : Int)) (by omega)
    exact ⟨(c1 % (T.length : Int)).toNat, by omega, by omega⟩
  obtain ⟨k, hk, hk2⟩ : ∃ k : Nat, c2.tmod (T.length : Int) = k ∧ k < T.length := by
    rw [Int.tmod_eq_emod_of_nonneg hc2.1]
    have h1 := Int.emod_nonneg c2 (b := (T.length : Int)) (by omega)
    have h2 := Int.emod_lt_of_pos c2 (b := (T.length : Int)) (by omega)
    exact ⟨(c2 % (T.length : Int)).toNat, by omega, by omega⟩
  have w1 : IntKind.i64.wrap c1 = c1 := by obtain ⟨p, q⟩ := hc1; exact wrap_ok (by omega) (by omega)
  have w2 : IntKind.i64.wrap c2 = c2 := by obtain ⟨p, q⟩ := hc2; exact wrap_ok (by omega) (by omega)
  obtain ⟨a, b, hab, hle, mn, mx⟩ : ∃ a b : Nat, ((a = i ∧ b = k) ∨ (a = k ∧ b = i)) ∧ a ≤ b ∧ (if k < i then (k : Int) else (i : Int)) = a ∧ (if i < k then (k : Int) else (i : Int)) = b := by
    by_cases h : k < i
    · exact ⟨k, i, .inr ⟨rfl, rfl⟩, by omega, if_pos h, if_neg (by omega)⟩
    · by_cases h2 : i < k
      · exact ⟨i, k, .inl ⟨rfl, rfl⟩, by omega, if_neg h, if_pos h2⟩
      · exact ⟨i, k, .inl ⟨rfl, rfl⟩, by omega, if_neg h, by rw [if_neg h2]; omega⟩
  have ha2 : a < T.length := by omega
  have hb2 : b < T.length := by omega
  have hM1 := Make_fn u d 3 [] T _ m (by omega) (by omega) rfl (m.plan (by omega) (by omega)) (by simp) tl
  have hM2 := Make_fn u d 3 [] ((T.set i T[k]).set k T[i]) _ m (by omega) (by omega) rfl (m.plan (by omega) (by omega)) (by simp) (by simpa using tl)
  have mG := makeG_ok u d 3 [] T
  have wG := makeG_worn u d 3 [] T m (by omega) (by omega) (by simp) tl
  have hS := Same_fn (outG (makeG u d 3 [] T)) (outG (makeG u d 3 [] T)) mG.rws.1 mG.rws.2 wG
  rw [decide_eq_true ⟨rfl, ⟨rfl, rfl, rfl, rfl⟩, rfl, rfl⟩] at hS
  have hsw := fun hs => make_congr (make_swap hi2 hk2 hab hle hs) u d 3 []
  obtain ⟨T', hT'⟩ : ∃ T', (T.set i T[k]).set k T[i] = T' := ⟨_, rfl⟩
  have lT' : T'.length = T.length := by rw [← hT']; simp
  rw [hT'] at hM2 hsw
  obtain ⟨T1, hT1⟩ : ∃ T1, T.set i T[k] = T1 := ⟨_, rfl⟩
  have lT1 : T1.length = T.length := by rw [← hT1]; simp
  rw [hT1] at hT'
  have eT1 : (T.map trC).set i (PV.agg [PV.int IntKind.i64 T[k].kind, PV.int IntKind.i64 T[k].pl, PV.int IntKind.i64 T[k].n]) = T1.map trC := by rw [← hT1, List.map_set]
  have eT' : (T1.map trC).set k (PV.agg [PV.int IntKind.i64 T[i].kind, PV.int IntKind.i64 T[i].pl, PV.int IntKind.i64 T[i].n]) = T'.map trC := by rw [← hT', List.map_set]
  have hk3 : k < T1.length := by omega
  have glu := mG.lu
  have gld := mG.ld
  obtain ⟨gu, gd⟩ := mG.frz
  have hcap : T.length * 24 ≤ 140737488355328 := by omega
  have hcap2 : (0 + T.length) * 24 ≤ 140737488355328 := by omega
  refine fn_introX mixed (X := X9) c9 21 (by simp [X9]) fun Q hR hN => ?_
  simp [X9]
  refine call_of sanity_fn ?_
  simp
  refine call_of hMd ?_
  simp [lu, ld]
  refine call_of hT ?_
  simp [lu, ld, hT3, hT0, w1, w2, hi, hk, hi2, hk2, hcap, hcap2, eT1, lT1, hk3, eT']
  refine loopX (fun (n : Nat) vs h' => n ≤ T.length ∧ (∀ q, q < n → ¬ Sk T a b q) ∧ vs = [.undef, .undef, .undef, .undef, .undef, .undef, .bool true, .ptr 16 1 0, .own 17 1 T.length 3 0 T.length, I i, I k, .own 18 1 T.length 3 0 T.length, I n, .undef, .undef, .undef, .undef, .undef, .undef, .undef] ∧
    h' = [dd, dd, dd, dd, dd, dd, dd, dd, dd, dd, dd, dd, dd, dd, dd, dd, (1, .var [I 48, I 12, .own 19 1 12 1 0 12, .own 20 1 12 1 0 12]), (1, .arr 3 0 false (T.map trC)), (1, .arr 3 0 false (T'.map trC)), dRow u, dRow d]) (fun n => T.length - n) 0 ?_ ?_
  · simp
  · rintro n vs h' ⟨h1, h2, rfl, rfl⟩ Q' hK hX hR'
    by_cases hn : n < T.length
    · have hw1 : IntKind.i64.wrap ((n : Int) + 1) = ((n + 1 : Nat) : Int) := wrap_ok (by omega) (by omega)
      have next : ¬ Sk T a b n → ∀ z, Q' .normal [.undef, .undef, .undef, .undef, .undef, .undef, .bool true, .ptr 16 1 0, .own 17 1 T.length 3 0 T.length, I i, I k, .own 18 1 T.length 3 0 T.length, .int .i64 ((n : Int) + 1), .undef, .undef, .undef, .undef, .undef, .bool true, z] [dd, dd, dd, dd, dd, dd, dd, dd, dd, dd, dd, dd, dd, dd, dd, dd, (1, .var [I 48, I 12, .own 19 1 12 1 0 12, .own 20 1 12 1 0 12]), (1, .arr 3 0 false (T.map trC)), (1, .arr 3 0 false (T'.map trC)), dRow u, dRow d] := fun hq z => by
        refine hK (n + 1) _ _ (by omega) ?_
        simp [lu, ld, lT']
        refine ⟨by omega, fun q hq1 => ?_⟩
        by_cases e : q = n
        · rw [e]; exact hq
        · exact h2 q (by omega)
      by_cases q1 : a < n
      case neg =>
        have q1' : ¬ (a : Int) < (n : Int) := by omega
        simp [hn, mn, q1, q1', hw1]
        exact next (fun ⟨_, _, _, h, _⟩ => q1 h) _
      have q1' : (a : Int) < (n : Int) := by omega
      by_cases q2 : n ≤ b
      case neg =>
        have q2' : ¬ (n : Int) ≤ (b : Int) := by omega
        simp [hn, mn, mx, q1, q1', q2, q2', hw1]
        exact next (fun ⟨_, _, _, _, h, _⟩ => q2 h) _
      have q2' : (n : Int) ≤ (b : Int) := by omega
      by_cases q3 : T[n].pl = T[a].pl
      · simp [hn, mn, mx, q1, q1', q2, q2', q3, ha2, hb2]
        refine hR' _ _ ?_
        simp
        refine hR _ _ ?_
        simp [X9]
      by_cases q4 : n < b
      case neg =>
        have q4' : ¬ (n : Int) < (b : Int) := by omega
        simp [hn, mn, mx, q1, q1', q2, q2', q3, q4, q4', ha2, hb2, hw1]
        exact next (fun ⟨_, _, _, _, _, h⟩ => h.elim q3 fun h => q4 h.1) _
      have q4' : (n : Int) < (b : Int) := by omega
      by_cases q5 : T[n].pl = T[b].pl
      · have q3' : ¬ T[b].pl = T[a].pl := fun e => q3 (q5.trans e)
        simp [hn, mn, mx, q1, q1', q2, q2', q3', q4, q4', q5, ha2, hb2]
        refine hR' _ _ ?_
        simp
        refine hR _ _ ?_
        simp [X9]
      · simp [hn, mn, mx, q1, q1', q2, q2', q3, q4, q4', q5, ha2, hb2, hw1]
        exact next (fun ⟨_, _, _, _, _, h⟩ => h.elim q3 fun h => q5 h.2) _
    · obtain rfl : n = T.length := by omega
      rw [← hsw fun q hq => h2 q hq] at hM1 hS mG glu gld gu gd
      simp only [outG] at hM1 hM2 hS
      simp [hn]
      refine hX _ _ _ ?_
      simp [lu, ld, fu, fd]
      refine call_of hM1 ?_
      have tkT : List.take T.length (List.map trC T') = T'.map trC := List.take_of_length_le (by simp [lT'])
      simp [lu, ld, fu, fd, glu, gld, gu, gd, lT', tkT]
      refine call_of hM2 ?_
      simp [lu, ld, fu, fd, glu, gld, gu, gd]
      refine call_of hS ?_
      simp
      refine hR _ _ ?_
      simp [X9]
end Go.Proofs.Ytgdcogoacnghkaa.N
