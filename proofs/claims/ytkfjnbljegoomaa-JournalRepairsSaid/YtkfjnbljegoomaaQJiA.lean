/-
  Chapter 28: journals read and repaired.
-/
import Derived.Test.YtkfjnbljegoomaaQJhA
namespace Go.Proofs.Ytkfjnbljegoomaa.J
set_option linter.unusedSimpArgs false
set_option linter.unusedVariables false
set_option linter.unusedSectionVars false
open Go.Proofs.Ytkfjnbljegoomaa.Am
set_option maxHeartbeats 8000000
/-- what is read in front of place i is m -/
def ReadAt (b : List Int) (i : Nat) (m : List Rec) : Prop := rd 0 b = m ++ rd i (b.drop (11 * i)) ∧ m.length = i ∧ 11 * i ≤ b.length
theorem ReadAt.start (b : List Int) : ReadAt b 0 [] := ⟨rfl, rfl, Nat.zero_le _⟩
theorem ReadAt.step {b : List Int} {i : Nat} {m : List Rec} {r : Rec} (h : ReadAt b i m) (hl : 11 * (i + 1) ≤ b.length) (hd : dec i ((b.drop (11 * i)).take 11) = some r) : ReadAt b (i + 1) (m ++ [r]) := by
  obtain ⟨h1, h2, h3⟩ := h
  rw [rd_eq i, if_pos (by simp; omega), hd] at h1
  refine ⟨?_, by simp [h2], hl⟩
  rw [h1, List.drop_drop, show 11 * i + 11 = 11 * (i + 1) by omega]
  simp
theorem ReadAt.bad {b : List Int} {i : Nat} {m : List Rec} (h : ReadAt b i m) (hl : 11 * (i + 1) ≤ b.length) (hd : dec i ((b.drop (11 * i)).take 11) = none) : rd 0 b = m := by
  obtain ⟨h1, h2, h3⟩ := h
  rw [rd_eq i, if_pos (by simp; omega), hd] at h1
  simpa using h1
theorem ReadAt.short {b : List Int} {i : Nat} {m : List Rec} (h : ReadAt b i m) (hl : b.length < 11 * (i + 1)) : rd 0 b = m := by
  obtain ⟨h1, h2, h3⟩ := h
  rw [rd_short (i := i) (by simp; omega)] at h1
  simpa using h1
theorem right_fi (b : List Int) (r0 r1 r2 r3 r5 : Row) : FI Try.prog (.fn (.func 20) [] []) [BL b] [r0, r1, r2, r3, dd, r5] (.fn (.func 27) [] [.ptr 4 1 0]) [(4, (1, .var [BL b]))] := by
  refine fn_introXI mixed (X := X20) c20 (by simp [X20]) (by simp) fun Q hR hN => ?_
  simp [X20]
  refine hR _ _ ?_
  simp [X20, finI]
theorem part_len {b : List Int} {i : Nat} (h : 11 * (i + 1) ≤ b.length) : ((b.drop (11 * i)).take 11).length = 11 := by simp; omega
theorem Read_fn (b : List Int) (hb : b.length ≤ 100000) (hc : ∀ c ∈ b, 0 ≤ c ∧ c ≤ 255) : Am.Fn Try.prog 13 [3, 0] [BL b] (.tup [.uslc ((rd 0 b).map RC), I ((11 * (rd 0 b).length : Nat) : Int)]) := by
  refine fn_introX mixed (X := X13) c13 6 (by simp [X13]) fun Q hR hN => ?_
  simp [X13]
  refine callv_of (right_fi b _ _ _ _ _) ?_
  simp
  refine range_of mixed (X := X27) c27 rfl (by rfl) (by simp [X27]) (by simp) ?_
  intro l Q2 hR2 hN2
  simp [X27]
  refine loopR (fun (i : Nat) vs h' => ∃ (m : List Rec) (r1 r5 : Row) (g2 : Nat) (x y z t : PV), ReadAt b i m ∧ vs = [.fn (.yield l) [] [], .ptr 4 1 0, I i, x, y, z, t, gOf none] ∧
    h' = [(1, .var [.own 3 1 m.length 3 0 m.length]), r1, (g2, .dead), (1, .arr 3 0 false (m.map RC)), (1, .var [BL b]), r5]) (fun i => b.length - 11 * i) 0 ?_ ?_
  · exact ⟨[], _, _, _, _, _, _, _, ReadAt.start b, rfl, rfl⟩
  · rintro i vs h' ⟨m, r1, r5, g2, x, y, z, t, hA, rfl, rfl⟩ Q3 hK3 hX3 hR3
    have hA' := hA
    obtain ⟨h1, h2, h3⟩ := hA'
    obtain ⟨p, hp⟩ : ∃ p : Nat, p = 11 * i := ⟨_, rfl⟩
    have hw1 : IntKind.i64.wrap ((i : Int) * 11) = (p : Int) := by rw [wrap_ok (by omega) (by omega)]; omega
    have hw2 : IntKind.i64.wrap ((b.length : Int) - (p : Int)) = (b.length : Int) - p := wrap_ok (by omega) (by omega)
    by_cases hl : 11 * (i + 1) ≤ b.length
    · obtain ⟨q, hq⟩ : ∃ q : Nat, q = p + 11 := ⟨_, rfl⟩
      have t1 : (11 : Int) ≤ (b.length : Int) - p := by omega
      have hw3 : IntKind.i64.wrap ((i : Int) + 1) = ((i + 1 : Nat) : Int) := wrap_ok (by omega) (by omega)
      have hw4 : IntKind.i64.wrap (((i + 1 : Nat) : Int) * 11) = (q : Int) := by rw [wrap_ok (by omega) (by omega)]; omega
      have hw5 : IntKind.i64.wrap (((i : Int) + 1) * 11) = (q : Int) := by rw [wrap_ok (by omega) (by omega)]; omega
      have hpq : p ≤ q := by omega
      have hqb : q ≤ b.length := by omega
      obtain ⟨part, hpt⟩ : ∃ part, part = (b.drop (11 * i)).take 11 := ⟨_, rfl⟩
      have hs : List.take (q - p) (List.drop p (List.map U b)) = part.map U := by
        rw [hpt, ← hp, show q - p = 11 by omega, List.map_take, List.map_drop]
      have hD := decode_fn i part (by omega) (by rw [hpt]; exact part_len hl) (fun c hcm => hc c (List.mem_of_mem_drop (List.mem_of_mem_take (by rw [← hpt]; exact hcm))))
      simp [hw1, hw2, t1, hw3, hw4, hw5, hpq, hqb, hs]
      refine call_of hD ?_
      unfold decT
      cases hd : dec i part with
      | none =>
        have hE := hA.bad hl (by rw [← hpt]; exact hd)
        have hw6 : IntKind.i64.wrap ((m.length : Int) * 11) = ((11 * m.length : Nat) : Int) := by rw [wrap_ok (by omega) (by omega)]; omega
        simp
        refine hR3 _ _ ?_
        simp
        refine hR2 none _ _ (by rfl) ?_
        simp [hw6]
        refine hR _ _ ?_
        rw [hE]
        simp [X13, ↓nrRC]
      | some r =>
        have hA2 := hA.step hl (by rw [← hpt]; exact hd)
        have c1 : (m.length + 1) * 24 ≤ 140737488355328 := by omega
        simp
        refine yield_of rfl rfl ?_
        simp [loopY, c1, ↓nrRC]
        simp [hw3]
        refine hK3 (i + 1) _ _ (by omega) ?_
        refine ⟨m ++ [r], (r1.1 + 1, .var [I r.kind, I r.a, I r.b]), (r5.1 + 1, .var [I r.kind, I r.a, I r.b]), g2 + 1, .ptr 5 (r5.1 + 1) 0, .bool true, .bool true, .bool false, hA2, ?_, ?_⟩
        · simp
        · simp
    · have t1 : ¬ (11 : Int) ≤ (b.length : Int) - p := by omega
      have hE := hA.short (by omega)
      have hw6 : IntKind.i64.wrap ((m.length : Int) * 11) = ((11 * m.length : Nat) : Int) := by rw [wrap_ok (by omega) (by omega)]; omega
      simp [hw1, hw2, t1]
      refine hX3 _ _ _ ?_
      simp
      refine hN2 none _ _ (by rfl) ?_
      simp [hw6]
      refine hR _ _ ?_
      rw [hE]
      simp [X13, ↓nrRC]
theorem Repair_fn (b : List Int) (hb : b.length ≤ 100000) (hc : ∀ c ∈ b, 0 ≤ c ∧ c ≤ 255) : Am.Fn Try.prog 17 [1] [BL b] (.uslc ((b.take (11 * (rd 0 b).length)).map U)) := by
  have hR0 := Read_fn b hb hc
  have hn := rd_len 0 b
  obtain ⟨n, hnn⟩ : ∃ n, n = 11 * (rd 0 b).length := ⟨_, rfl⟩
  rw [← hnn] at hR0 hn
  rw [← hnn]
  generalize rd 0 b = m at hR0
  have hC := Clone_fn (b.take n) (by simp; omega)
  have hs : List.take n (List.map U b) = (b.take n).map U := by rw [List.map_take]
  obtain ⟨c, hcc⟩ : ∃ c, c = b.take n := ⟨_, rfl⟩
  rw [← hcc] at hC hs
  rw [← hcc]
  refine fn_introX mixed (X := X17) c17 3 (by simp [X17]) fun Q hR hN => ?_
  simp [X17]
  refine call_of hR0 ?_
  simp [↓nrRC, hn, hs]
  refine call_of hC ?_
  simp
  refine hR _ _ ?_
  simp [X17]
theorem RRead_fn (b : List Int) (hb : b.length ≤ 100000) (hc : ∀ c ∈ b, 0 ≤ c ∧ c ≤ 255) : Am.Fn Try.prog 14 [3, 0] [BL b] (.tup [.uslc ((rd 0 b).map RC), I ((11 * (rd 0 b).length : Nat) : Int)]) := by
  refine fn_introX mixed (X := X14) c14 7 (by simp [X14]) fun Q hR hN => ?_
  simp [X14]
  refine loopX (fun (m : List Rec) vs h' => ReadAt b m.length m ∧ vs = [BL b, .undef, .undef, .own 5 1 m.length 3 0 m.length, .undef, .undef, .undef, .undef, .undef, .undef] ∧ h' = [dd, dd, dd, dd, dd, (1, .arr 3 0 false (m.map RC)), dd]) (fun m => b.length - 11 * m.length) [] ?_ ?_
  · simp [ReadAt.start b, ↓nrRC]
  · rintro m vs h' ⟨hA, rfl, rfl⟩ Q' hK hX hR'
    have hA' := hA
    obtain ⟨h1, h2, h3⟩ := hA'
    obtain ⟨p, hp⟩ : ∃ p : Nat, p = 11 * m.length := ⟨_, rfl⟩
    obtain ⟨q, hq⟩ : ∃ q : Nat, q = p + 11 := ⟨_, rfl⟩
    have hw0 : IntKind.i64.wrap ((m.length : Int) + 1) = (m.length : Int) + 1 := wrap_ok (by omega) (by omega)
    have hw1 : IntKind.i64.wrap (11 * ((m.length : Int) + 1)) = (q : Int) := by rw [wrap_ok (by omega) (by omega)]; omega
    have hw2 : IntKind.i64.wrap (11 * (m.length : Int)) = (p : Int) := by rw [wrap_ok (by omega) (by omega)]; omega
    have hw3 : IntKind.i64.wrap ((p : Int) + 11) = (q : Int) := by rw [wrap_ok (by omega) (by omega)]; omega
    have hw7 : IntKind.i64.wrap (11 * (m.length : Int)) = ((11 * m.length : Nat) : Int) := by rw [wrap_ok (by omega) (by omega)]; omega
    by_cases hl : 11 * (m.length + 1) ≤ b.length
    · have hpq : p ≤ q := by omega
      have hqb : q ≤ b.length := by omega
      obtain ⟨part, hpt⟩ : ∃ part, part = (b.drop (11 * m.length)).take 11 := ⟨_, rfl⟩
      have hs : List.take (q - p) (List.drop p (List.map U b)) = part.map U := by
        rw [hpt, ← hp, show q - p = 11 by omega, List.map_take, List.map_drop]
      have hlp : part.length = 11 := by rw [hpt]; exact part_len hl
      have hcp : ∀ c ∈ part, 0 ≤ c ∧ c ≤ 255 := fun c hcm => hc c (List.mem_of_mem_drop (List.mem_of_mem_take (by rw [← hpt]; exact hcm)))
      obtain ⟨e0, e1, e2, e3, e4, e5, e6, e7, e8, e9, e10, hpe⟩ : ∃ e0 e1 e2 e3 e4 e5 e6 e7 e8 e9 e10, part = [e0, e1, e2, e3, e4, e5, e6, e7, e8, e9, e10] := by
        match part, hlp with
        | [e0, e1, e2, e3, e4, e5, e6, e7, e8, e9, e10], _ => exact ⟨e0, e1, e2, e3, e4, e5, e6, e7, e8, e9, e10, rfl⟩
      have hm : ∀ x, x ∈ [e0, e1, e2, e3, e4, e5, e6, e7, e8, e9, e10] → 0 ≤ x ∧ x ≤ 255 := by rw [← hpe]; exact hcp
      have nA := read_fn [e1, e2, e3, e4] rfl (fun c hc => hm c (by simp at hc ⊢; omega))
      have nB := read_fn [e5, e6, e7, e8] rfl (fun c hc => hm c (by simp at hc ⊢; omega))
      have r0 := hm e0 (by simp)
      have w0 : IntKind.i64.wrap e0 = e0 := wrap_ok (by omega) (by omega)
      have hRO : recOf part = ⟨e0, num4 [e1, e2, e3, e4], num4 [e5, e6, e7, e8]⟩ := by rw [hpe]; rfl
      have hD : dec m.length part = if okR ⟨e0, num4 [e1, e2, e3, e4], num4 [e5, e6, e7, e8]⟩ ∧ enc m.length ⟨e0, num4 [e1, e2, e3, e4], num4 [e5, e6, e7, e8]⟩ = part then some ⟨e0, num4 [e1, e2, e3, e4], num4 [e5, e6, e7, e8]⟩ else none := by
        unfold dec; rw [hRO]
      generalize num4 [e1, e2, e3, e4] = A at nA hD
      generalize num4 [e5, e6, e7, e8] = B at nB hD
      have hV := Valid_fn ⟨e0, A, B⟩
      have hw4 : IntKind.i64.wrap ((q : Int)) = (q : Int) := wrap_ok (by omega) (by omega)
      simp [hw0, hw1, hw2, hw3, hqb, hpq, hs, hpe, w0]
      refine call_of nA ?_
      simp
      refine call_of nB ?_
      simp
      refine call_of hV ?_
      by_cases ho : okR ⟨e0, A, B⟩
      · have hE := Encode_fn m.length ⟨e0, A, B⟩ (by omega) ho
        have hlE := enc_len m.length ⟨e0, A, B⟩
        have hrE := enc_range (i := m.length) ho
        rw [decide_eq_true ho]
        simp
        refine call_of hE ?_
        generalize enc m.length ⟨e0, A, B⟩ = e at hE hlE hrE hD
        have hbe := beq_bytes hrE hm
        simp only [List.map_cons, List.map_nil] at hbe
        by_cases heq : e = [e0, e1, e2, e3, e4, e5, e6, e7, e8, e9, e10]
        · rw [if_pos ⟨ho, heq.trans hpe.symm⟩] at hD
          have hA2 := hA.step hl (by rw [← hpt]; exact hD)
          rw [decide_eq_true heq] at hbe
          have c1 : (m.length + 1) * 24 ≤ 140737488355328 := by omega
          simp [hbe, bytesL, byte?, c1]
          refine hK (m ++ [⟨e0, A, B⟩]) _ _ (by simp; omega) ?_
          simp [hA2, ↓nrRC]
        · rw [if_neg (fun h => heq (h.2.trans hpe))] at hD
          have hE' := hA.bad hl (by rw [← hpt]; exact hD)
          rw [decide_eq_false heq] at hbe
          simp [hbe, bytesL, byte?]
          refine hX _ _ _ ?_
          simp [hw7]
          refine hR _ _ ?_
          rw [hE']
          simp [X14, ↓nrRC]
      · rw [if_neg (fun h => ho h.1)] at hD
        have hE' := hA.bad hl (by rw [← hpt]; exact hD)
        rw [decide_eq_false ho]
        simp
        refine hX _ _ _ ?_
        simp [hw7]
        refine hR _ _ ?_
        rw [hE']
        simp [X14, ↓nrRC]
    · have hqb : ¬ q ≤ b.length := by omega
      have hE' := hA.short (by omega)
      simp [hw0, hw1, hqb]
      refine hX _ _ _ ?_
      simp [hw7]
      refine hR _ _ ?_
      rw [hE']
      simp [X14, ↓nrRC]
end Go.Proofs.Ytkfjnbljegoomaa.J
