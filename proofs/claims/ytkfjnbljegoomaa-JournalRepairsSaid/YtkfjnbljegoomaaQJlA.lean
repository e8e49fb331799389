/-
  Chapter 28: JournalMatchesReference, JournalReads, JournalSurvivesCuts.
-/
import Derived.Test.YtkfjnbljegoomaaQJkA
namespace Go.Proofs.Ytkfjnbljegoomaa.J
set_option linter.unusedSimpArgs false
set_option linter.unusedVariables false
set_option linter.unusedSectionVars false
open Go.Proofs.Ytkfjnbljegoomaa.Am
set_option maxHeartbeats 8000000
abbrev made (l : List Raw) (n : Nat) : List Rec := (l.take n).map mkR
theorem made_ok (l : List Raw) (n : Nat) : ∀ r ∈ made l n, okR r := fun r hr => by
  obtain ⟨x, _, rfl⟩ := List.mem_map.1 hr
  exact mkR_ok
theorem made_len (l : List Raw) (n : Nat) : (made l n).length ≤ n := by simp; omega
theorem rd_len' (b : List Int) (h : b.length ≤ 100000) : (rd 0 b).length ≤ 100000 := by have := rd_len 0 b; omega
theorem frzRC (b : List Rec) : List.map (frzE ∘ RC) b = b.map RC := List.map_congr_left fun r _ => rfl
theorem frzU (b : List Int) : List.map (frzE ∘ U) b = b.map U := List.map_congr_left fun r _ => rfl
theorem appU (a b : List Int) : List.map (PV.int .u8) a ++ List.map U b = (a ++ b).map U := List.map_append.symm
theorem Matches_fn (l : List Raw) (raw : List Int) (hl : ∀ x ∈ l, rawOk x) (hraw : ∀ c ∈ raw, 0 ≤ c ∧ c ≤ 255) : Am.Fn Try.prog 3 [0] [.slc (l.map RWC), BL raw] (.bool true) := by
  have hM := Made_fn l 6 (by omega) hl
  have ho := made_ok l 6
  have hn := made_len l 6
  unfold made at ho hn
  generalize (l.take 6).map mkR = r at hM ho hn
  have hP := put_fn r (by omega) ho
  have hB := Bytes_fn r (by omega) ho
  have hb := encs_range 0 ho
  have hbl := encs_len r 0
  generalize encs 0 r = b at hP hB hb hbl
  by_cases h80 : 80 < raw.length
  · have t80 : (80 : Int) < raw.length := by omega
    refine fn_introX mixed (X := X3) c3 11 (by simp [X3]) fun Q hR hN => ?_
    simp [X3]
    refine call_of sanity_fn ?_
    simp
    refine call_of hM ?_
    simp [frzRC]
    refine call_of hP ?_
    simp [frzRC]
    refine call_of hB ?_
    simp [t80, frzRC]
    refine call_of hB ?_
    simp
    refine hR _ _ ?_
    simp [X3]
  · have t80 : ¬ (80 : Int) < raw.length := by omega
    have hA := Read_fn raw (by omega) hraw
    have hA' := RRead_fn raw (by omega) hraw
    have hm : ∀ c ∈ b ++ raw, 0 ≤ c ∧ c ≤ 255 := fun c hc => (List.mem_append.1 hc).elim (hb c) (hraw c)
    have hC := Read_fn (b ++ raw) (by simp; omega) hm
    have hC' := RRead_fn (b ++ raw) (by simp; omega) hm
    have e1 := rd_len 0 raw
    have e2 := rd_len 0 (b ++ raw)
    rw [List.length_append] at e2
    obtain ⟨t, ht⟩ : ∃ t, t = b ++ raw := ⟨_, rfl⟩
    have hap := appU b raw
    have htl : b.length + raw.length = t.length := by rw [ht]; simp
    rw [← ht] at hap hC hC' e2
    generalize rd 0 raw = m at hA hA' e1
    generalize rd 0 t = m2 at hC hC' e2
    have hS := Same_fn m m (by omega)
    have hS2 := Same_fn m2 m2 (by omega)
    rw [decide_eq_true rfl] at hS hS2
    have c1 : b.length ≤ 140737488355328 := by omega
    have c2 : t.length ≤ 140737488355328 := by omega
    refine fn_introX mixed (X := X3) c3 11 (by simp [X3]) fun Q hR hN => ?_
    simp [X3]
    refine call_of sanity_fn ?_
    simp
    refine call_of hM ?_
    simp [frzRC]
    refine call_of hP ?_
    simp [frzRC]
    refine call_of hB ?_
    simp [t80, frzRC]
    refine call_of hA ?_
    simp
    refine call_of hA' ?_
    simp [c1, c2, frzU, hap, htl]
    refine call_of hC ?_
    simp
    refine call_of hC' ?_
    simp [frzRC]
    refine call_of hS ?_
    simp [frzRC]
    refine call_of hS2 ?_
    simp
    refine hR _ _ ?_
    simp [X3]
theorem Reads_fn (l : List Raw) (hl : ∀ x ∈ l, rawOk x) : Am.Fn Try.prog 4 [0] [.slc (l.map RWC)] (.bool true) := by
  have hM := Made_fn l 10 (by omega) hl
  have ho := made_ok l 10
  have hn := made_len l 10
  unfold made at ho hn
  generalize (l.take 10).map mkR = r at hM ho hn
  have hP := put_fn r (by omega) ho
  have hb := encs_range 0 ho
  have hbl := encs_len r 0
  have hrd := rd_all ho 0
  generalize encs 0 r = b at hP hb hbl hrd
  have hA := Read_fn b (by omega) hb
  rw [hrd, ← hbl] at hA
  have hS := Same_fn r r (by omega)
  rw [decide_eq_true rfl] at hS
  have hw : IntKind.i64.wrap (11 * (r.length : Int)) = (b.length : Int) := by rw [wrap_ok (by omega) (by omega)]; omega
  by_cases h0 : r.length = 0
  · obtain rfl : r = [] := List.length_eq_zero_iff.1 h0
    obtain rfl : b = [] := List.length_eq_zero_iff.1 (by simpa using hbl)
    simp at hM hP hA hS
    have w0 : IntKind.i64.wrap 0 = 0 := rfl
    refine fn_introX mixed (X := X4) c4 4 (by simp [X4]) fun Q hR hN => ?_
    simp [X4]
    refine call_of sanity_fn ?_
    simp
    refine call_of hM ?_
    simp
    refine call_of hP ?_
    simp
    refine call_of hA ?_
    simp
    refine call_of hS ?_
    simp [w0]
    refine call_of hS ?_
    simp [w0]
    refine hR _ _ ?_
    simp [X4]
  · obtain ⟨p, hp⟩ : ∃ p, p = 11 * (r.length - 1) := ⟨_, rfl⟩
    have hpl : p ≤ b.length := by omega
    have hb1 : b.length - 1 < b.length := by omega
    obtain ⟨part, hpt⟩ : ∃ part, part = b.take p := ⟨_, rfl⟩
    have hpt' : part.length = p := by rw [hpt]; simp; omega
    have hU := Put_fn part ⟨5, 7, 0⟩ (by omega) (by decide)
    have hel := enc_len (part.length / 11) ⟨5, 7, 0⟩
    generalize enc (part.length / 11) ⟨5, 7, 0⟩ = e at hU hel
    have hw1 : IntKind.i64.wrap ((r.length : Int) - 1) = ((r.length - 1 : Nat) : Int) := by rw [wrap_ok (by omega) (by omega)]; omega
    have hw2 : IntKind.i64.wrap (11 * ((r.length - 1 : Nat) : Int)) = (p : Int) := by rw [wrap_ok (by omega) (by omega)]; omega
    have hw3 : IntKind.i64.wrap ((b.length : Int) - 1) = ((b.length - 1 : Nat) : Int) := by rw [wrap_ok (by omega) (by omega)]; omega
    have hs : List.take p (List.map U b) = part.map U := by rw [hpt, List.map_take]
    refine fn_introX mixed (X := X4) c4 4 (by simp [X4]) fun Q hR hN => ?_
    simp [X4]
    refine call_of sanity_fn ?_
    simp
    refine call_of hM ?_
    simp [frzRC]
    refine call_of hP ?_
    simp
    refine call_of hA ?_
    simp [frzRC]
    have hlt : (part.length : Int) + (e.length : Int) = (b.length : Int) := by omega
    have hple : p ≤ part.length + e.length := by omega
    have htk : List.take p (List.map U part ++ List.map U e) = part.map U := by
      rw [← hpt', ← List.length_map (f := U), List.take_left]
    refine call_of hS ?_
    simp [hw, hw1, hw2, hw3, hpl, hb1, hs, h0]
    refine call_of hU ?_
    simp [hlt, htk, hb1, hw3, hpl, hple, hs]
    refine hR _ _ ?_
    simp [X4]
theorem Cuts_fn (l : List Raw) (cut : Int) (hl : ∀ x ∈ l, rawOk x) (hc : 0 ≤ cut ∧ cut ≤ 255) : Am.Fn Try.prog 5 [0] [.slc (l.map RWC), .int .u8 cut] (.bool true) := by
  have hM := Made_fn l 10 (by omega) hl
  have ho := made_ok l 10
  have hn := made_len l 10
  unfold made at ho hn
  generalize (l.take 10).map mkR = r at hM ho hn
  have hP := put_fn r (by omega) ho
  have hb := encs_range 0 ho
  have hbl := encs_len r 0
  have hrd := fun k hk => rd_cut ho k hk
  generalize encs 0 r = b at hP hb hbl hrd
  obtain ⟨k, hk⟩ : ∃ k : Nat, k = (cut % (b.length + 1)).toNat := ⟨_, rfl⟩
  have hk1 : (k : Int) = cut % (b.length + 1) := by rw [hk]; have := Int.emod_nonneg cut (show (b.length : Int) + 1 ≠ 0 by omega); omega
  have hkl : k ≤ b.length := by have := Int.emod_lt_of_pos cut (show (0 : Int) < b.length + 1 by omega); omega
  have hA := Read_fn (b.take k) (by simp; omega) (fun c hc => hb c (List.mem_of_mem_take hc))
  rw [hrd k (by omega)] at hA
  have hll : (r.take (k / 11)).length = k / 11 := by simp; omega
  rw [hll] at hA
  have hS := Same_fn (r.take (k / 11)) (r.take (k / 11)) (by rw [hll]; omega)
  rw [decide_eq_true rfl] at hS
  have hs : List.take k (List.map U b) = (b.take k).map U := by rw [List.map_take]
  have hs2 : List.take (k / 11) (List.map RC r) = (r.take (k / 11)).map RC := by rw [List.map_take]
  have hkr : k / 11 ≤ r.length := by omega
  have q1 := quo11 k (by omega)
  have q2 := quo11' k (by omega)
  obtain ⟨m, hm⟩ : ∃ m, m = r.take (k / 11) := ⟨_, rfl⟩
  obtain ⟨part, hpt⟩ : ∃ part, part = b.take k := ⟨_, rfl⟩
  obtain ⟨j, hj⟩ : ∃ j, j = k / 11 := ⟨_, rfl⟩
  rw [← hm] at hA hS hs2
  rw [← hpt] at hA hs
  rw [← hj] at hA hs2 hkr q1 q2
  have hw : IntKind.i64.wrap (11 * (r.length : Int)) = (b.length : Int) := by rw [wrap_ok (by omega) (by omega)]; omega
  have hw1 : IntKind.i64.wrap ((b.length : Int) + 1) = (b.length : Int) + 1 := wrap_ok (by omega) (by omega)
  have hw2 : IntKind.i64.wrap cut = cut := wrap_ok (by omega) (by omega)
  have hw3 : cut.tmod ((b.length : Int) + 1) = (k : Int) := by rw [Int.tmod_eq_emod_of_nonneg hc.1, ← hk1]
  have hw5 : IntKind.i64.wrap (k : Int) = (k : Int) := wrap_ok (by omega) (by omega)
  have hw4 : IntKind.i64.wrap ((j : Int) * 11) = ((11 * j : Nat) : Int) := by rw [wrap_ok (by omega) (by omega)]; omega
  have hne : ¬ (b.length : Int) + 1 = 0 := by omega
  refine fn_introX mixed (X := X5) c5 3 (by simp [X5]) fun Q hR hN => ?_
  simp [X5]
  refine call_of sanity_fn ?_
  simp
  refine call_of hM ?_
  simp [frzRC]
  refine call_of hP ?_
  simp [hw, hw1, hw2, hw3, hw5, hkl, hs, hne]
  refine call_of hA ?_
  simp [frzRC, q1, q2, hkr, hs2, hw4]
  refine call_of hS ?_
  simp [hw4, q1, q2]
  refine hR _ _ ?_
  simp [X5]
end Go.Proofs.Ytkfjnbljegoomaa.J
