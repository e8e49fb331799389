/-
  Chapter 28: JournalRepairs.
-/
import Derived.Test.YtkfjnbljegoomaaQJmA
namespace Go.Proofs.Ytkfjnbljegoomaa.J
set_option linter.unusedSimpArgs false
set_option linter.unusedVariables false
set_option linter.unusedSectionVars false
open Go.Proofs.Ytkfjnbljegoomaa.Am
set_option maxHeartbeats 8000000
theorem frzRCI (b : List Rec) : List.map (PV.agg ∘ fun r : Rec => [I r.kind, I r.a, I r.b]) b = b.map RC := List.map_congr_left fun r _ => rfl
theorem Repairs_fn (l : List Raw) (raw : List Int) (k : List Raw) (hl : ∀ x ∈ l, rawOk x) (hraw : ∀ c ∈ raw, 0 ≤ c ∧ c ≤ 255) (hk : ∀ x ∈ k, rawOk x) : Am.Fn Try.prog 8 [0] [.slc (l.map RWC), BL raw, .slc (k.map RWC)] (.bool true) := by
  have hM := Made_fn l 6 (by omega) hl
  have ho := made_ok l 6
  have hn := made_len l 6
  have hM2 := Made_fn k 6 (by omega) hk
  have ho2 := made_ok k 6
  have hn2 := made_len k 6
  unfold made at ho hn ho2 hn2
  generalize (l.take 6).map mkR = r at hM ho hn
  generalize (k.take 6).map mkR = more at hM2 ho2 hn2
  have hP := put_fn r (by omega) ho
  have hb := encs_range 0 ho
  have hbl := encs_len r 0
  generalize encs 0 r = b0 at hP hb hbl
  obtain ⟨q, hq⟩ : ∃ q : Nat, q = min raw.length 40 := ⟨_, rfl⟩
  have hqq : (if (40 : Int) < (raw.length : Int) then (40 : Int) else (raw.length : Int)) = (q : Int) := by split <;> omega
  have hqr : q ≤ raw.length := by omega
  have hs0 : List.take q (List.map U raw) = (raw.take q).map U := by rw [List.map_take]
  have hr0 : ∀ c ∈ raw.take q, 0 ≤ c ∧ c ≤ 255 := fun c hc => hraw c (List.mem_of_mem_take hc)
  have hl0 : (raw.take q).length = q := by simp; omega
  generalize raw.take q = raw' at hs0 hr0 hl0
  have hap : List.map U b0 ++ List.map U raw' = (b0 ++ raw').map U := List.map_append.symm
  have hap' : List.map (PV.int .u8) b0 ++ List.map U raw' = (b0 ++ raw').map U := List.map_append.symm
  have hbr : ∀ c ∈ b0 ++ raw', 0 ≤ c ∧ c ≤ 255 := fun c hc => (List.mem_append.1 hc).elim (hb c) (hr0 c)
  have hbl2 : b0.length + q = (b0 ++ raw').length := by rw [List.length_append, hl0]
  generalize b0 ++ raw' = b at hap hap' hbr hbl2
  have hA := Read_fn b (by omega) hbr
  have hC := Repair_fn b (by omega) hbr
  have hmo := rd_ok 0 b
  have hml := rd_len 0 b
  have htk := rd_take 0 b
  rw [htk] at hC
  generalize rd 0 b = m at hA hC hmo hml htk
  have hcr := encs_range 0 hmo
  have hcl := encs_len m 0
  rw [← hcl] at hA
  have hC2 := Repair_fn (encs 0 m) (by omega) hcr
  rw [rd_all hmo, ← hcl, List.take_length] at hC2
  have hmm : ∀ x ∈ m ++ more, okR x := fun x hx => (List.mem_append.1 hx).elim (hmo x) (ho2 x)
  have hE := encs_range 0 hmm
  have hEl := encs_len (m ++ more) 0
  rw [List.length_append] at hEl
  have hD := Read_fn (encs 0 (m ++ more)) (by omega) hE
  rw [rd_all hmm] at hD
  have hS := Same_fn (m ++ more) (m ++ more) (by simp; omega)
  rw [decide_eq_true rfl] at hS
  have tkb : List.take (11 * m.length) (List.map U b) = (encs 0 m).map U := by rw [← htk, List.map_take]
  have hle : (encs 0 m).length ≤ b.length := by omega
  rw [← hcl] at tkb hml
  have w1 : IntKind.i64.wrap (11 * (m.length : Int)) = ((encs 0 m).length : Int) := by rw [wrap_ok (by omega) (by omega)]; omega
  have hm12 : ¬ (12 : Int) < (m.length : Int) := by omega
  obtain ⟨c, hcc⟩ : ∃ c, c = encs 0 m := ⟨_, rfl⟩
  rw [← hcc] at hA hC hC2 tkb hle hml hcr hcl w1
  have hn0 : ¬ (c.length : Int) < 0 := by omega
  have hnb : ¬ (b.length : Int) < (c.length : Int) := by omega
  have htc : List.take c.length (List.map U c) = List.map U c := List.take_of_length_le (by simp)
  refine fn_introX mixed (X := X8) c8 17 (by simp [X8]) fun Q hR hN => ?_
  simp [X8]
  refine call_of sanity_fn ?_
  simp
  refine call_of hM ?_
  simp [frzRC]
  refine call_of hP ?_
  have c1 : b0.length ≤ 140737488355328 := by omega
  have c2 : b.length ≤ 140737488355328 := by omega
  have q0 : (0 : Int) ≤ q := by omega
  have hti : List.take b.length (List.map U b) = List.map U b := List.take_of_length_le (by simp)
  simp [c1, c2, hqq, hqr, hs0, hap, hap', hl0, hbl2, hti, frzU]
  refine call_of hA ?_
  simp [hti]
  refine call_of hC ?_
  simp [hn0, hnb, hle, tkb, htc]
  refine call_of hC2 ?_
  simp [hn0, hnb, hle, tkb, htc, hm12, w1]
  refine call_of hM2 ?_
  simp
  refine loopX (fun (p : Nat) vs h' => p ≤ more.length ∧ vs = [.undef, .undef, .undef, .undef, .bool true, .undef, .own 14 1 m.length 3 0 m.length, .undef, .own 15 1 (encs 0 (m ++ more.take p)).length 1 0 (encs 0 (m ++ more.take p)).length, .own 16 1 more.length 3 0 more.length, I p, .undef, .undef, .undef, .undef, .undef] ∧ h' = [dd, dd, dd, dd, dd, dd, dd, dd, dd, dd, dd, dd, dd, dd, (1, .arr 3 0 false (m.map RC)), (1, .arr 1 0 false ((encs 0 (m ++ more.take p)).map U)), (1, .arr 3 0 false (more.map RC))]) (fun p => more.length - p) 0 ?_ ?_
  · simp [hcc]
  · rintro p vs h' ⟨g1, rfl, rfl⟩ Q' hK hX hR'
    have el := encs_len (m ++ more.take p) 0
    have el2 : (m ++ more.take p).length = m.length + p := by simp; omega
    rw [el2] at el
    by_cases hp : p < more.length
    · have e1 : encs 0 (m ++ more.take p) ++ enc ((encs 0 (m ++ more.take p)).length / 11) more[p] = encs 0 (m ++ more.take (p + 1)) := by
        rw [List.take_succ_eq_append_getElem hp, ← List.append_assoc, encs_append (m ++ more.take p), el, el2, show 11 * (m.length + p) / 11 = 0 + (m.length + p) by omega]
        simp [encs]
      have hU := Put_fn (encs 0 (m ++ more.take p)) more[p] (by omega) (ho2 _ (List.getElem_mem hp))
      rw [e1] at hU
      have w5 : IntKind.i64.wrap ((p : Int) + 1) = ((p + 1 : Nat) : Int) := wrap_ok (by omega) (by omega)
      generalize encs 0 (m ++ more.take p) = z1 at hU
      generalize hz : encs 0 (m ++ more.take (p + 1)) = z2 at hU
      have htz : List.take z1.length (List.map U z1) = List.map U z1 := List.take_of_length_le (by simp)
      simp [hp, htz]
      refine call_of hU ?_
      simp [w5]
      refine hK (p + 1) _ _ (by omega) ?_
      simp [hz]
      omega
    · obtain rfl : p = more.length := by omega
      rw [List.take_length] at el el2
      rw [List.take_length]
      obtain ⟨z, hz⟩ : ∃ z, z = encs 0 (m ++ more) := ⟨_, rfl⟩
      have hjz : ((m ++ more).length : Nat) = m.length + more.length := List.length_append
      rw [← hz] at hD hE hEl el
      rw [← hz]
      have htz : List.take z.length (List.map U z) = List.map U z := List.take_of_length_le (by simp)
      have e3 : (((11 * (m ++ more).length : Nat)) : Int) = (z.length : Int) := by rw [hjz]; omega
      rw [e3] at hD
      have ha1 : List.map RC m ++ List.map RC more = (m ++ more).map RC := List.map_append.symm
      generalize m ++ more = all at hD hS ha1 hjz
      have c3 : m.length * 24 ≤ 140737488355328 := by omega
      have c4 : (m.length + more.length) * 24 ≤ 140737488355328 := by omega
      have c5 : all.length * 24 ≤ 140737488355328 := by omega
      have hta : List.take all.length (List.map RC all) = List.map RC all := List.take_of_length_le (by simp)
      simp
      refine hX _ _ _ ?_
      simp [c3, c4, c5, frzRC, ha1, ← hjz, hta, htz, ↓nrRC]
      refine call_of hD ?_
      simp [frzRC, hta, htz, ← hjz, ↓nrRC]
      refine call_of hS ?_
      simp
      refine hR _ _ ?_
      simp [X8]
end Go.Proofs.Ytkfjnbljegoomaa.J
