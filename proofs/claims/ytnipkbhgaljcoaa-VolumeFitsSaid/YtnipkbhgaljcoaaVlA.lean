/-
  Chapter 23: VolumeLimits.
-/
import Derived.Test.YtnipkbhgaljcoaaViA
namespace Go.Proofs.Ytnipkbhgaljcoaa.V
set_option linter.unusedSimpArgs false
set_option linter.unusedVariables false
set_option linter.unusedSectionVars false
open Go.Proofs.Ytnipkbhgaljcoaa.Am
theorem chain_mono {ok ok' : Nat → Nat → Bool} {n : Nat} (h : ∀ i j, j ≤ n → ok i j = true → ok' i j = true) : ∀ (E : List Int) (f : Nat), chain ok n f E → chain ok' n f E
  | [], _, hc => hc
  | e :: r, f, ⟨h1, h2, h3, h4⟩ => ⟨h1, h2, h _ _ (by omega) h3, chain_mono h r _ h4⟩
theorem fewer {ok ok' : Nat → Nat → Bool} {n : Nat} (h : ∀ i j, j ≤ n → ok i j = true → ok' i j = true) (h0 : ¬ (ent ok n 0).1 < 0) : ¬ (ent ok' n 0).1 < 0 ∧ (path ok' n n 0).length ≤ (path ok n n 0).length := by
  obtain ⟨c1, c2⟩ := path_chain ok n n 0 (by omega) (Nat.zero_le _) (by omega)
  obtain ⟨o1, o2, _⟩ := chain_opt ok' n _ 0 n (by omega) (Nat.zero_le _) (chain_mono h _ _ c1)
  obtain ⟨d1, d2⟩ := path_chain ok' n n 0 (by omega) (Nat.zero_le _) o1
  exact ⟨by omega, by omega⟩
set_option maxHeartbeats 1000000 in
theorem Limits_fn (lv : List Int) (bg : List Bool) (an : List Int) (mo more iv : Int) (hl : lv.length ≤ maxLen) (hbg : bg.length ≤ maxLen) (ha : an.length ≤ maxLen) (hmo : 0 ≤ mo ∧ mo ≤ 255) (hmore : 0 ≤ more ∧ more ≤ 255) (hiv : 0 ≤ iv ∧ iv ≤ 255) :
    Am.Fn Try.prog 5 [0] [RawP lv bg an mo, .int .u8 more, .int .u8 iv] (.bool true) := by
  obtain ⟨c, b, m, ⟨hs, hb9, hm1, hm6⟩, hM⟩ := Made_fn lv bg an mo hl hbg ha hmo
  obtain ⟨n, hn⟩ : ∃ n, b.length = n := ⟨_, rfl⟩
  have hcl : c.length = n := by rw [(shp_iff.1 hs).1, hn]
  have hcm : c.length ≤ maxLen := by unfold maxLen; omega
  have hSp := Split_fn c b m hcm (by omega) hm1
  rw [splitP, if_pos hs, splitR] at hSp
  obtain ⟨ok, hok⟩ : ∃ ok, oks c b m b.length = ok := ⟨_, rfl⟩
  rw [hok, hn] at hSp
  refine fn_introX mixed (X := X5) c5 9 (by simp [X5]) fun Q hR hN => ?_
  simp [X5, r_nil]
  refine call_of sanity_fn ?_
  simp [callOk, r_nil, storeP]
  refine call_of hM ?_
  have tkL : List.take n (List.map L c) = List.map L c := List.take_of_length_le (by simp [hcl])
  have tkb : List.take n (List.map PV.bool b) = List.map PV.bool b := List.take_of_length_le (by simp [hn])
  simp [callOk, r_nil, storeP, hcl, hn, tkL, tkb, frzUL]
  refine call_of hSp ?_
  by_cases h0 : (ent ok n 0).1 < 0
  · rw [if_pos h0]
    simp [callOk, r_nil, storeP]
    refine hR _ _ ?_
    simp [X5, fin]
  · rw [if_neg h0]
    by_cases hn0 : n = 0
    · subst hn0
      simp [callOk, r_nil, storeP]
      refine hR _ _ ?_
      simp [X5, fin]
    · obtain ⟨m2, e2, hm2⟩ : ∃ m2 : Int, IntKind.i64.wrap (m + IntKind.i64.wrap (more.tmod 5)) = m2 ∧ m ≤ m2 := by
        refine ⟨_, rfl, ?_⟩
        rw [Int.tmod_eq_emod_of_nonneg hmore.1, wrap_ok (n := more % 5) (by omega) (by omega), wrap_ok (by omega) (by omega)]
        omega
      obtain ⟨q, hq, e3⟩ : ∃ q : Nat, q < n ∧ (IntKind.i64.wrap iv).tmod (n : Int) = (q : Int) := by
        rw [wrap_ok (by omega) (by omega), Int.tmod_eq_emod_of_nonneg hiv.1]
        have h1 := Int.emod_nonneg iv (b := (n : Int)) (by omega)
        have h2 := Int.emod_lt_of_pos iv (b := (n : Int)) (by omega)
        exact ⟨(iv % n).toNat, by omega, by omega⟩
      have hS2 := Split_fn c b m2 hcm (by omega) (by omega)
      rw [splitP, if_pos hs, splitR] at hS2
      obtain ⟨ok2, hok2⟩ : ∃ ok2, oks c b m2 b.length = ok2 := ⟨_, rfl⟩
      rw [hok2, hn] at hS2
      have hle2 : ∀ i j, j ≤ n → ok i j = true → ok2 i j = true := fun i j _ h => by
        rw [← hok] at h; rw [← hok2]
        simp only [oks, Bool.and_eq_true, decide_eq_true_eq] at h ⊢
        exact ⟨⟨h.1.1, by omega⟩, h.2⟩
      obtain ⟨f2, l2⟩ := fewer hle2 h0
      rw [if_neg f2] at hS2
      obtain ⟨b3, hb3⟩ : ∃ b3, b.set q true = b3 := ⟨_, rfl⟩
      have hn3 : b3.length = n := by rw [← hb3]; simp [hn]
      have hs3 : shp c b3.length = true := by rw [hn3, ← hn]; exact hs
      have hS3 := Split_fn c b3 m hcm (by omega) hm1
      rw [splitP, if_pos hs3, splitR] at hS3
      obtain ⟨ok3, hok3⟩ : ∃ ok3, oks c b3 m b3.length = ok3 := ⟨_, rfl⟩
      rw [hok3, hn3] at hS3
      have hle3 : ∀ i j, j ≤ n → ok i j = true → ok3 i j = true := fun i j _ h => by
        rw [← hok] at h; rw [← hok3]
        simp only [oks, Bool.and_eq_true, decide_eq_true_eq, Bool.or_eq_true] at h ⊢
        refine ⟨h.1, ?_⟩
        rw [hn3, ← hn]
        rcases h.2 with h | h
        · exact .inl h
        · right
          rw [← hb3]
          by_cases hjq : j = q
          · subst hjq; simp [List.getD, hn, hq]
          · simpa [List.getD, List.getElem?_set, Ne.symm hjq] using h
      obtain ⟨f3, l3⟩ := fewer hle3 h0
      rw [if_neg f3] at hS3
      have tk3 : List.take n (List.map PV.bool b3) = List.map PV.bool b3 := List.take_of_length_le (by simp [hn3])
      have set3 : (List.map PV.bool b).set q (PV.bool true) = List.map PV.bool b3 := by rw [← hb3, List.map_set]
      have b1 : n ≤ 140737488355328 := by omega
      have b2 : (n : Int) ≤ 140737488355328 := by omega
      have qn : (q : Int) < n := by omega
      simp [callOk, r_nil, storeP, hn0, hcl, hn, tkL, tkb, frzUL, e2]
      refine call_of hS2 ?_
      have hqb : q < b.length := by omega
      simp [callOk, r_nil, storeP, hn0, hcl, hn, tkL, tkb, frzUL, e3, hq, qn, b1, b2, set3, hqb, tk3, hn3]
      refine call_of hS3 ?_
      simp [callOk, r_nil, storeP, l2, l3]
      refine hR _ _ ?_
      simp [X5, fin]
end Go.Proofs.Ytnipkbhgaljcoaa.V
