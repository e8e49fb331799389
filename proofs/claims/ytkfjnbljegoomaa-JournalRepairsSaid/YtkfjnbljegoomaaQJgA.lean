/-
  Chapter 28: journals written; records made and compared.
-/
import Derived.Test.YtkfjnbljegoomaaQJfA
namespace Go.Proofs.Ytkfjnbljegoomaa.J
set_option linter.unusedSimpArgs false
set_option linter.unusedVariables false
set_option linter.unusedSectionVars false
open Go.Proofs.Ytkfjnbljegoomaa.Am
set_option maxHeartbeats 8000000
theorem quo11 (n : Nat) (hn : n ≤ 100000) : IntKind.i64.wrap ((n : Int).tdiv 11) = ((n / 11 : Nat) : Int) := by
  rw [Int.tdiv_eq_ediv_of_nonneg (by omega), wrap_ok (by omega) (by omega)]; omega
theorem quo11' (n : Nat) (hn : n ≤ 100000) : IntKind.i64.wrap ((n : Int) / 11) = ((n / 11 : Nat) : Int) := by
  rw [wrap_ok (by omega) (by omega)]; omega
theorem app_map (a b : List Int) : List.map U a ++ List.map U b = (a ++ b).map U := (List.map_append).symm
theorem Put_fn (b : List Int) (r : Rec) (hb : b.length ≤ 100000) (hr : okR r) : Am.Fn Try.prog 16 [1] [BL b, RC r] (.uslc ((b ++ enc (b.length / 11) r).map U)) := by
  have hE := encode_fn (b.length / 11) r (by omega) hr
  have le := enc_len (b.length / 11) r
  generalize enc (b.length / 11) r = e at hE le
  obtain ⟨e0, e1, e2, e3, e4, e5, e6, e7, e8, e9, e10, rfl⟩ : ∃ e0 e1 e2 e3 e4 e5 e6 e7 e8 e9 e10, e = [e0, e1, e2, e3, e4, e5, e6, e7, e8, e9, e10] := by
    match e, le with
    | [e0, e1, e2, e3, e4, e5, e6, e7, e8, e9, e10], _ => exact ⟨e0, e1, e2, e3, e4, e5, e6, e7, e8, e9, e10, rfl⟩
  have q1 := quo11 b.length hb
  have q2 := quo11' b.length hb
  have w1 : IntKind.i64.wrap ((b.length : Int) + 11) = (b.length : Int) + 11 := wrap_ok (by omega) (by omega)
  have c1 : b.length ≤ 140737488355328 := by omega
  have c2 : b.length + 11 ≤ 140737488355328 := by omega
  have c3 : (b.length : Int) + 11 ≤ 140737488355328 := by omega
  have c4 : (b.length : Int) + 11 ≤ 9223372036854775807 := by omega
  have c5 : (0 : Int) ≤ (b.length : Int) + 11 := by omega
  refine fn_introX mixed (X := X16) c16 6 (by simp [X16]) fun Q hR hN => ?_
  simp [X16, q1, q2]
  refine call_of hE ?_
  simp [w1, c1, c2, c3, c4, c5]
  refine hR _ _ ?_
  simp [X16]
  intro x hx
  rcases hx with ⟨a, _, rfl⟩ | rfl | rfl | rfl | rfl | rfl | rfl | rfl | rfl | rfl | rfl | rfl <;> rfl
theorem RPut_fn (b : List Int) (r : Rec) (hb : b.length ≤ 100000) (hr : okR r) : Am.Fn Try.prog 19 [1] [BL b, RC r] (.uslc ((b ++ enc (b.length / 11) r).map U)) := by
  have hE := Encode_fn (b.length / 11) r (by omega) hr
  have le := enc_len (b.length / 11) r
  generalize enc (b.length / 11) r = e at hE le
  have q1 := quo11 b.length hb
  have q2 := quo11' b.length hb
  have c1 : b.length ≤ 140737488355328 := by omega
  have c2 : b.length + e.length ≤ 140737488355328 := by omega
  refine fn_introX mixed (X := X19) c19 6 (by simp [X19]) fun Q hR hN => ?_
  simp [X19, q1, q2, c1]
  refine call_of hE ?_
  simp [c2]
  refine hR _ _ ?_
  simp [X19]
  rintro x (⟨a, _, rfl⟩ | ⟨a, _, rfl⟩) <;> rfl
theorem encs_snoc {l : List Rec} {k : Nat} (h : k < l.length) : encs 0 (l.take (k + 1)) = encs 0 (l.take k) ++ enc k l[k] := by
  rw [List.take_succ_eq_append_getElem h, encs_append, List.length_take, Nat.min_eq_left (by omega), Nat.zero_add]
  simp [encs]
theorem put_fn (l : List Rec) (hl : l.length ≤ 1000) (ho : ∀ r ∈ l, okR r) : Am.Fn Try.prog 11 [1] [.slc (l.map RC)] (.uslc ((encs 0 l).map U)) := by
  refine fn_introX mixed (X := X11) c11 4 (by simp [X11]) fun Q hR hN => ?_
  simp [X11]
  refine loopX (fun (p : Nat × List Int) vs h' => p.1 ≤ l.length ∧ p.2 = encs 0 (l.take p.1) ∧ vs = [.slc (l.map RC), .undef, .own 2 1 p.2.length 1 0 p.2.length, I p.1, .undef] ∧ h' = [dd, dd, (1, .arr 1 0 false (p.2.map U)), dd]) (fun p => l.length - p.1) (0, []) ?_ ?_
  · simp [encs]
  · rintro ⟨k, b⟩ vs h' ⟨g1, g2, rfl, rfl⟩ Q' hK hX hR'
    dsimp only at g1 g2
    by_cases hk : k < l.length
    · have hw1 : IntKind.i64.wrap ((k : Int) + 1) = ((k + 1 : Nat) : Int) := wrap_ok (by omega) (by omega)
      have hlb : b.length = 11 * k := by rw [g2, encs_len, List.length_take, Nat.min_eq_left g1]
      have hP := Put_fn b l[k] (by omega) (ho _ (List.getElem_mem hk))
      have e1 : b.length / 11 = k := by omega
      rw [e1, g2, ← encs_snoc hk] at hP
      rw [← g2] at hP
      simp [hk]
      refine call_of hP ?_
      simp [hw1]
      refine hK (k + 1, encs 0 (l.take (k + 1))) _ _ (by dsimp only; omega) ?_
      simp
      omega
    · obtain rfl : k = l.length := by omega
      rw [List.take_length] at g2
      simp
      refine hX _ _ _ ?_
      simp
      refine hR _ _ ?_
      simp [X11, g2]
theorem Bytes_fn (l : List Rec) (hl : l.length ≤ 1000) (ho : ∀ r ∈ l, okR r) : Am.Fn Try.prog 12 [1] [.slc (l.map RC)] (.uslc ((encs 0 l).map U)) := by
  refine fn_introX mixed (X := X12) c12 4 (by simp [X12]) fun Q hR hN => ?_
  simp [X12]
  refine loopX (fun (p : Nat × List Int) vs h' => p.1 ≤ l.length ∧ p.2 = encs 0 (l.take p.1) ∧ vs = [.slc (l.map RC), .undef, .own 2 1 p.2.length 1 0 p.2.length, I p.1, .undef] ∧ h' = [dd, dd, (1, .arr 1 0 false (p.2.map U)), dd]) (fun p => l.length - p.1) (0, []) ?_ ?_
  · simp [encs]
  · rintro ⟨k, b⟩ vs h' ⟨g1, g2, rfl, rfl⟩ Q' hK hX hR'
    dsimp only at g1 g2
    by_cases hk : k < l.length
    · have hw1 : IntKind.i64.wrap ((k : Int) + 1) = ((k + 1 : Nat) : Int) := wrap_ok (by omega) (by omega)
      have hlb : b.length = 11 * k := by rw [g2, encs_len, List.length_take, Nat.min_eq_left g1]
      have hP := RPut_fn b l[k] (by omega) (ho _ (List.getElem_mem hk))
      have e1 : b.length / 11 = k := by omega
      rw [e1, g2, ← encs_snoc hk] at hP
      rw [← g2] at hP
      simp [hk]
      refine call_of hP ?_
      simp [hw1]
      refine hK (k + 1, encs 0 (l.take (k + 1))) _ _ (by dsimp only; omega) ?_
      simp
      omega
    · obtain rfl : k = l.length := by omega
      rw [List.take_length] at g2
      simp
      refine hX _ _ _ ?_
      simp
      refine hR _ _ ?_
      simp [X12, g2]
abbrev Raw := Int × Int × Int
abbrev RWC (x : Raw) : PV := .agg [.int .u8 x.1, .int .u32 x.2.1, .int .u32 x.2.2]
def rawOk (x : Raw) : Prop := (0 ≤ x.1 ∧ x.1 ≤ 255) ∧ (0 ≤ x.2.1 ∧ x.2.1 ≤ 4294967295) ∧ (0 ≤ x.2.2 ∧ x.2.2 ≤ 4294967295)
def mkR (x : Raw) : Rec := ⟨1 + x.1 % 5, x.2.1 % 2147483648, x.2.2 % 2147483648⟩
theorem mkR_ok {x : Raw} : okR (mkR x) := by unfold okR mkR; dsimp only; omega
def MadeAt (l : List Raw) (k : Nat) (b : List Rec) : Prop := b = (l.take k).map mkR
theorem MadeAt.step {l : List Raw} {k : Nat} {b : List Rec} (m : MadeAt l k b) (h : k < l.length) : MadeAt l (k + 1) (b ++ [mkR l[k]]) := by
  unfold MadeAt at m ⊢; rw [List.take_succ_eq_append_getElem h, List.map_append, ← m]; rfl
theorem nrRC (b : List Rec) : (∀ x, x ∈ b.map RC → noRefE x = true) = True := eq_true fun x hx => by obtain ⟨r, _, rfl⟩ := List.mem_map.1 hx; rfl
theorem Made_fn (l : List Raw) (n : Nat) (hn : n ≤ 100) (hl : ∀ x ∈ l, rawOk x) : Am.Fn Try.prog 10 [3] [.slc (l.map RWC), I n] (.uslc (((l.take n).map mkR).map RC)) := by
  refine fn_introX mixed (X := X10) c10 4 (by simp [X10]) fun Q hR hN => ?_
  simp [X10]
  refine loopX (fun (p : Nat × List Rec) vs h' => p.1 ≤ l.length ∧ p.1 ≤ n ∧ MadeAt l p.1 p.2 ∧ vs = [.slc (l.map RWC), I n, .undef, .own 3 1 p.2.length 3 0 p.2.length, I p.1, .undef] ∧ h' = [dd, dd, dd, (1, .arr 3 0 false (p.2.map RC))]) (fun p => l.length - p.1) (0, []) ?_ ?_
  · simp [MadeAt]
  · rintro ⟨k, b⟩ vs h' ⟨g1, g1n, g2, rfl, rfl⟩ Q' hK hX hR'
    dsimp only at g1 g2 g1n
    have hlb : b.length = k := by rw [show b = (l.take k).map mkR from g2, List.length_map, List.length_take, Nat.min_eq_left g1]
    by_cases hk : k < l.length
    · by_cases hkn : k < n
      · have hw1 : IntKind.i64.wrap ((k : Int) + 1) = ((k + 1 : Nat) : Int) := wrap_ok (by omega) (by omega)
        obtain ⟨h1, h2, h3⟩ := hl _ (List.getElem_mem hk)
        have t1 : IntKind.i64.wrap (1 + IntKind.i64.wrap (l[k].1.tmod 5)) = 1 + l[k].1 % 5 := by
          rw [Int.tmod_eq_emod_of_nonneg h1.1, wrap_ok (n := l[k].1 % 5) (by omega) (by omega), wrap_ok (by omega) (by omega)]
        have t2 : IntKind.i64.wrap (l[k].2.1.tmod 2147483648) = l[k].2.1 % 2147483648 := by
          rw [Int.tmod_eq_emod_of_nonneg h2.1, wrap_ok (by omega) (by omega)]
        have t3 : IntKind.i64.wrap (l[k].2.2.tmod 2147483648) = l[k].2.2 % 2147483648 := by
          rw [Int.tmod_eq_emod_of_nonneg h3.1, wrap_ok (by omega) (by omega)]
        have c1 : (b.length + 1) * 24 ≤ 140737488355328 := by omega
        have g3 := g2.step hk
        have em : mkR l[k] = ⟨1 + l[k].1 % 5, l[k].2.1 % 2147483648, l[k].2.2 % 2147483648⟩ := rfl
        rw [em] at g3
        simp [hk, hkn, t1, t2, t3, c1, hw1, ↓nrRC]
        refine hK (k + 1, b ++ [⟨1 + l[k].1 % 5, l[k].2.1 % 2147483648, l[k].2.2 % 2147483648⟩]) _ _ (by dsimp only; omega) ?_
        simp [g3, ↓nrRC]
        omega
      · obtain rfl : k = n := by omega
        simp [hk]
        refine hX _ _ _ ?_
        simp
        refine hR _ _ ?_
        rw [← show b = (l.take k).map mkR from g2]
        simp [X10, ↓nrRC]
    · have e : l.take n = l.take k := by rw [List.take_of_length_le (by omega), List.take_of_length_le (by omega)]
      simp [hk]
      refine hX _ _ _ ?_
      simp
      refine hR _ _ ?_
      rw [e, ← show b = (l.take k).map mkR from g2]
      simp [X10, ↓nrRC]
theorem rec_eq {a b : Rec} : a = b ↔ a.kind = b.kind ∧ a.a = b.a ∧ a.b = b.b := by cases a; cases b; simp
theorem Same_fn (a b : List Rec) (ha : a.length ≤ 100000) : Am.Fn Try.prog 15 [0] [.slc (a.map RC), .slc (b.map RC)] (.bool (decide (a = b))) := by
  refine fn_introX mixed (X := X15) c15 1 (by simp [X15]) fun Q hR hN => ?_
  by_cases hl : a.length = b.length
  · simp [X15, hl]
    refine loopX (fun (k : Nat) vs h' => k ≤ a.length ∧ a.take k = b.take k ∧ vs = [.slc (a.map RC), .slc (b.map RC), .undef, I k, .undef, .undef, .undef] ∧ h' = [dd]) (fun k => a.length - k) 0 ?_ ?_
    · simp
    · rintro k vs h' ⟨g1, g2, rfl, rfl⟩ Q' hK hX hR'
      by_cases hk : k < a.length
      · have hkb : k < b.length := by omega
        have hw1 : IntKind.i64.wrap ((k : Int) + 1) = ((k + 1 : Nat) : Int) := wrap_ok (by omega) (by omega)
        by_cases he : a[k] = b[k]
        · have he' := rec_eq.1 he
          simp [hk, hkb, he', hw1]
          refine hK (k + 1) _ _ (by omega) ?_
          simp [take_eq g2 hk hkb he]
          omega
        · have ht : (!decide (a[k].kind = b[k].kind) || (!decide (a[k].a = b[k].a) || !decide (a[k].b = b[k].b))) = true := by
            refine Bool.not_eq_false _ ▸ fun e => he (rec_eq.2 ?_)
            simp at e
            exact e
          simp [hk, hkb, ht]
          refine hR' _ _ ?_
          simp
          refine hR _ _ ?_
          have : a ≠ b := fun e => he (by subst e; rfl)
          simp [X15, this]
      · have hkb : ¬ k < b.length := by omega
        have := all_eq g2 (by omega) hl
        simp [hk]
        refine hX _ _ _ ?_
        simp
        refine hR _ _ ?_
        simp [X15, this]
  · have : a ≠ b := fun e => hl (by rw [e])
    simp [X15, hl]
    refine hR _ _ ?_
    simp [X15, this]
end Go.Proofs.Ytkfjnbljegoomaa.J
