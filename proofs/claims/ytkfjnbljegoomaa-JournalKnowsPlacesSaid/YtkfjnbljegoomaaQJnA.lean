/-
  Chapter 28: JournalKnowsPlaces.
-/
import Derived.Test.YtkfjnbljegoomaaQJmA
namespace Go.Proofs.Ytkfjnbljegoomaa.J
set_option linter.unusedSimpArgs false
set_option linter.unusedVariables false
set_option linter.unusedSectionVars false
open Go.Proofs.Ytkfjnbljegoomaa.Am
set_option maxHeartbeats 8000000
theorem Places_fn (l : List Raw) (d e : Int) (hl : ∀ x ∈ l, rawOk x) (hd : 0 ≤ d ∧ d ≤ 255) (he : 0 ≤ e ∧ e ≤ 255) : Am.Fn Try.prog 7 [0] [.slc (l.map RWC), .agg [U d, U e]] (.bool true) := by
  have hM := Made_fn l 10 (by omega) hl
  have ho := made_ok l 10
  have hn := made_len l 10
  unfold made at ho hn
  generalize (l.take 10).map mkR = r at hM ho hn
  have hP := put_fn r (by omega) ho
  have hb := encs_range 0 ho
  have hbl := encs_len r 0
  have hsw := fun {i k} => @swapped r ho (by omega) i k
  generalize encs 0 r = b at hP hb hbl hsw
  have hw : IntKind.i64.wrap (11 * (r.length : Int)) = (b.length : Int) := by rw [wrap_ok (by omega) (by omega)]; omega
  have hw2 : IntKind.i64.wrap d = d := wrap_ok (by omega) (by omega)
  have hw3 : IntKind.i64.wrap e = e := wrap_ok (by omega) (by omega)
  by_cases h2 : r.length < 2
  · have t2 : (r.length : Int) < 2 := by omega
    refine fn_introX mixed (X := X7) c7 9 (by simp [X7]) fun Q hR hN => ?_
    simp [X7]
    refine call_of sanity_fn ?_
    simp
    refine call_of hM ?_
    simp [frzRC]
    refine call_of hP ?_
    simp [hw, t2]
    refine hR _ _ ?_
    simp [X7]
  · have t2 : ¬ (r.length : Int) < 2 := by omega
    have hne : ¬ (r.length : Int) = 0 := by omega
    have hrn : ¬ r = [] := fun h => by rw [h] at h2; simp at h2
    obtain ⟨i, hi1⟩ : ∃ i : Nat, (i : Int) = d % r.length := ⟨(d % r.length).toNat, by have := Int.emod_nonneg d hne; omega⟩
    obtain ⟨k, hk1⟩ : ∃ k : Nat, (k : Int) = e % r.length := ⟨(e % r.length).toNat, by have := Int.emod_nonneg e hne; omega⟩
    have hil : i < r.length := by have := Int.emod_lt_of_pos d (show (0 : Int) < r.length by omega); omega
    have hkl : k < r.length := by have := Int.emod_lt_of_pos e (show (0 : Int) < r.length by omega); omega
    have hw4 : d.tmod (r.length : Int) = (i : Int) := by rw [Int.tmod_eq_emod_of_nonneg hd.1, ← hi1]
    have hw5 : e.tmod (r.length : Int) = (k : Int) := by rw [Int.tmod_eq_emod_of_nonneg he.1, ← hk1]
    have hw6 : IntKind.i64.wrap (i : Int) = (i : Int) := wrap_ok (by omega) (by omega)
    have hw7 : IntKind.i64.wrap (k : Int) = (k : Int) := wrap_ok (by omega) (by omega)
    have c1 : b.length ≤ 140737488355328 := by omega
    by_cases hik : i = k
    · refine fn_introX mixed (X := X7) c7 9 (by simp [X7]) fun Q hR hN => ?_
      simp [X7]
      refine call_of sanity_fn ?_
      simp
      refine call_of hM ?_
      simp [frzRC]
      refine call_of hP ?_
      simp [hw, hw2, hw3, hw4, hw5, hw6, hw7, t2, hne, hrn, hik]
      refine hR _ _ ?_
      simp [X7]
    · refine fn_introX mixed (X := X7) c7 9 (by simp [X7]) fun Q hR hN => ?_
      simp [X7]
      refine call_of sanity_fn ?_
      simp
      refine call_of hM ?_
      simp [frzRC]
      refine call_of hP ?_
      simp [hw, hw2, hw3, hw4, hw5, hw6, hw7, t2, hne, hrn, hik, frzU, c1]
      obtain ⟨s1, h1⟩ : ∃ s1 : Nat, s1 = 11 * i := ⟨_, rfl⟩
      obtain ⟨s2, h2'⟩ : ∃ s2 : Nat, s2 = 11 * k := ⟨_, rfl⟩
      have w1 : IntKind.i64.wrap (11 * (i : Int)) = (s1 : Int) := by rw [wrap_ok (by omega) (by omega)]; omega
      have w2 : IntKind.i64.wrap (11 * (k : Int)) = (s2 : Int) := by rw [wrap_ok (by omega) (by omega)]; omega
      refine loopX (fun (p : Nat × List Int) vs h' => p.1 ≤ 11 ∧ Swp b p.2 i k p.1 ∧ (∀ c ∈ p.2, 0 ≤ c ∧ c ≤ 255) ∧ vs = [.undef, .undef, .undef, .undef, .bool true, .own 6 1 r.length 3 0 r.length, .own 7 1 b.length 1 0 b.length, I i, I k, .own 8 1 b.length 1 0 b.length, I p.1, .undef, .undef, .undef, .undef, .undef, .undef] ∧ h' = [dd, dd, dd, dd, dd, dd, (1, .arr 3 0 false (r.map RC)), (1, .arr 1 0 false (b.map U)), (1, .arr 1 0 false (p.2.map U))]) (fun p => 11 - p.1) (0, b) ?_ ?_
      · simp [Swp.start b i k]
        exact hb
      · rintro ⟨n, c⟩ vs h' ⟨g1, g2, g3, rfl, rfl⟩ Q' hK hX hR'
        dsimp only at g1 g2 g3
        have gl := g2.len
        by_cases hn11 : n < 11
        · have tn : (n : Int) < 11 := by omega
          obtain ⟨p1, hp1⟩ : ∃ p1 : Nat, p1 = 11 * i + n := ⟨_, rfl⟩
          obtain ⟨p2, hp2⟩ : ∃ p2 : Nat, p2 = 11 * k + n := ⟨_, rfl⟩
          have w3 : IntKind.i64.wrap ((s1 : Int) + n) = (p1 : Int) := by rw [wrap_ok (by omega) (by omega)]; omega
          have w4 : IntKind.i64.wrap ((s2 : Int) + n) = (p2 : Int) := by rw [wrap_ok (by omega) (by omega)]; omega
          have w5 : IntKind.i64.wrap ((n : Int) + 1) = ((n + 1 : Nat) : Int) := wrap_ok (by omega) (by omega)
          have l1 : p1 < b.length := by omega
          have l2 : p2 < b.length := by omega
          have g4 := g2.step hik hn11 (by omega) (by omega)
          simp only [← hp1, ← hp2] at g4
          have m1 : List.set (List.map U c) p1 (U b[p2]) = (c.set p1 b[p2]).map U := setU ..
          have m2 : List.set (List.map U (c.set p1 b[p2])) p2 (U b[p1]) = ((c.set p1 b[p2]).set p2 b[p1]).map U := setU ..
          have gm : ∀ x ∈ (c.set p1 b[p2]).set p2 b[p1], 0 ≤ x ∧ x ≤ 255 := fun x hx => by
            rcases List.mem_or_eq_of_mem_set hx with hx | rfl
            · rcases List.mem_or_eq_of_mem_set hx with hx | rfl
              · exact g3 x hx
              · exact hb _ (List.getElem_mem _)
            · exact hb _ (List.getElem_mem _)
          have lc : (c.set p1 b[p2]).length = b.length := by rw [List.length_set, gl]
          generalize c.set p1 b[p2] = c' at m1 m2 g4 gm lc
          generalize c'.set p2 b[p1] = c'' at m2 g4 gm
          simp [tn, w1, w2, w3, w4, w5, l1, l2, gl, m1, m2, lc]
          refine hK (n + 1, c'') _ _ (by dsimp only; omega) ?_
          simp [hn11, g4]
          exact ⟨by omega, gm⟩
        · obtain rfl : n = 11 := by omega
          have hx := hsw hil hkl hik g2
          have hA := Read_fn c (by omega) g3
          rw [hx] at hA
          obtain ⟨j, hj⟩ : ∃ j, j = min i k := ⟨_, rfl⟩
          rw [← hj] at hA
          have hjr : j ≤ r.length := by omega
          have hll : (r.take j).length = j := by simp; omega
          rw [hll] at hA
          have hS := Same_fn (r.take j) (r.take j) (by rw [hll]; omega)
          rw [decide_eq_true rfl] at hS
          have hs2 : List.take j (List.map RC r) = (r.take j).map RC := by rw [List.map_take]
          generalize r.take j = m at hA hS hs2 hll
          have tk2 : List.take b.length (List.map U c) = c.map U := by rw [← gl]; exact List.take_of_length_le (by simp)
          have w8 : IntKind.i64.wrap (11 * (j : Int)) = ((11 * j : Nat) : Int) := by rw [wrap_ok (by omega) (by omega)]; omega
          have hjj : (if k < i then (k : Int) else (i : Int)) = (j : Int) := by split <;> omega
          simp
          refine hX _ _ _ ?_
          simp [gl, tk2]
          refine call_of hA ?_
          simp [frzRC, hjj, hjr, hs2]
          refine call_of hS ?_
          simp [hjj, w8]
          refine hR _ _ ?_
          simp [X7]
end Go.Proofs.Ytkfjnbljegoomaa.J
