/-
  Chapter 26: plates made, strikes made.
-/
import Derived.Test.YtalgbgeocpbadaaQKnA
namespace Go.Proofs.Ytalgbgeocpbadaa.K
set_option linter.unusedSimpArgs false
set_option linter.unusedVariables false
set_option linter.unusedSectionVars false
open Go.Proofs.Ytalgbgeocpbadaa.Am
set_option maxHeartbeats 4000000
abbrev DOT (p : Int × Int) : PV := .agg [.int .u8 p.1, .int .u8 p.2]
abbrev RAW (a b : Int) (l : List (Int × Int)) : PV := .agg [.int .u8 a, .int .u8 b, .slc (l.map DOT)]
/-- a plate as Made gives it -/
structure Mad (w h : Nat) (u d : List (List Bool)) : Prop where
  w0 : 48 ≤ w
  w1 : w ≤ 52
  w2 : w % 2 = 0
  h0 : 12 ≤ h
  h1 : h ≤ 15
  h2 : h % 3 = 0
  lu : u.length = h
  ld : d.length = h
  wu : Wid w u
  wd : Wid w d
theorem u8_ok {n : Int} (h1 : 0 ≤ n) (h2 : n ≤ 255) : IntKind.u8.wrap n = n := by
  simp [IntKind.wrap, IntKind.signed, IntKind.bits]
  omega
theorem Made_fn (a b : Int) (l : List (Int × Int)) (ha : 0 ≤ a ∧ a ≤ 255) (hb : 0 ≤ b ∧ b ≤ 255) (hl : ∀ p ∈ l, (0 ≤ p.1 ∧ p.1 ≤ 255) ∧ (0 ≤ p.2 ∧ p.2 ≤ 255)) :
    ∃ (w h : Nat) (u d : List (List Bool)), Mad w h u d ∧ Am.Fn Try.prog 9 [0, 0, 1, 1] [RAW a b l] (PU w h u d) := by
  suffices hh : ∃ r, (∃ (w h : Nat) (u d : List (List Bool)), Mad w h u d ∧ r = PU w h u d) ∧ Am.Fn Try.prog 9 [0, 0, 1, 1] [RAW a b l] r by
    obtain ⟨r, ⟨w, h, u, d, h1, rfl⟩, h2⟩ := hh; exact ⟨w, h, u, d, h1, h2⟩
  refine fn_introE mixed (X := X9) c9 10 (by simp [X9]) (by kernel_rfl) fun Q hR hN => ?_
  obtain ⟨w, hw, hw0, hw1, hw2⟩ : ∃ w : Nat, IntKind.i64.wrap (2 * IntKind.i64.wrap (24 + IntKind.i64.wrap (a.tmod 3))) = (w : Int) ∧ 48 ≤ w ∧ w ≤ 52 ∧ w % 2 = 0 := by
    rw [Int.tmod_eq_emod_of_nonneg ha.1, wrap_ok (n := a % 3) (by omega) (by omega), wrap_ok (n := 24 + a % 3) (by omega) (by omega), wrap_ok (by omega) (by omega)]
    exact ⟨(2 * (24 + a % 3)).toNat, by omega, by omega, by omega, by omega⟩
  obtain ⟨h, hh, hh0, hh1, hh2⟩ : ∃ h : Nat, IntKind.i64.wrap (3 * IntKind.i64.wrap (4 + IntKind.i64.wrap (b.tmod 2))) = (h : Int) ∧ 12 ≤ h ∧ h ≤ 15 ∧ h % 3 = 0 := by
    rw [Int.tmod_eq_emod_of_nonneg hb.1, wrap_ok (n := b % 2) (by omega) (by omega), wrap_ok (n := 4 + b % 2) (by omega) (by omega), wrap_ok (by omega) (by omega)]
    exact ⟨(3 * (4 + b % 2)).toNat, by omega, by omega, by omega, by omega⟩
  have hB := Blank_fn w h (by omega) (by omega)
  have lB := blank_len w h
  have wB := wid_blank w h
  generalize blankD w h = B at hB lB wB
  simp [X9, hw, hh]
  refine call_of hB ?_
  simp [lB]
  refine loopX (fun (p : Nat × List (List Bool) × List (List Bool)) vs h' => p.1 ≤ 200 ∧ p.2.1.length = h ∧ p.2.2.length = h ∧ Wid w p.2.1 ∧ Wid w p.2.2 ∧ vs = [.undef, .ptr 5 1 0, .ptr 6 1 0, .ptr 7 1 0, I p.1, .undef, .undef, .undef, .undef] ∧
    h' = [dd, dd, dd, dd, dd, (1, .var [.int .u8 a, .int .u8 b, .slc (l.map DOT)]), (1, .var [I 0, I 0, .nils, .nils]), (1, .var [I w, I h, .own 8 1 h 1 0 h, .own 9 1 h 1 0 h]), (1, .arr 1 0 false (p.2.1.map UW)), (1, .arr 1 0 false (p.2.2.map UW))]) (fun p => 200 - p.1) (0, B, B) ?_ ?_
  · simp [lB, wB]
  · rintro ⟨i, U, D⟩ vs h' ⟨g1, g3, g4, g5, g6, rfl, rfl⟩ Q' hK hX hR'
    dsimp only at g1 g3 g4 g5 g6
    by_cases hi : i < l.length
    · by_cases hi2 : i < 200
      · obtain ⟨⟨p1, p2⟩, q1, q2⟩ := hl _ (List.getElem_mem hi)
        obtain ⟨x, hx, hx2⟩ : ∃ x : Nat, (IntKind.i64.wrap l[i].1).tmod (w : Int) = (x : Int) ∧ x < w := by
          rw [wrap_ok (by omega) (by omega), Int.tmod_eq_emod_of_nonneg p1]
          have h1 := Int.emod_nonneg l[i].1 (b := (w : Int)) (by omega)
          have h2 := Int.emod_lt_of_pos l[i].1 (b := (w : Int)) (by omega)
          exact ⟨(l[i].1 % (w : Int)).toNat, by omega, by omega⟩
        obtain ⟨y, hy, hy2⟩ : ∃ y : Nat, (IntKind.i64.wrap (IntKind.u8.wrap (l[i].2.tdiv 2))).tmod (h : Int) = (y : Int) ∧ y < h := by
          rw [Int.tdiv_eq_ediv_of_nonneg q1, u8_ok (by omega) (by omega), wrap_ok (by omega) (by omega), Int.tmod_eq_emod_of_nonneg (by omega)]
          have h1 := Int.emod_nonneg (l[i].2 / 2) (b := (h : Int)) (by omega)
          have h2 := Int.emod_lt_of_pos (l[i].2 / 2) (b := (h : Int)) (by omega)
          exact ⟨(l[i].2 / 2 % (h : Int)).toNat, by omega, by omega⟩
        have hi2' : (i : Int) < 200 := by omega
        have hyU : y < U.length := by omega
        have hyD : y < D.length := by omega
        have wy1 := wid_get g5 hyU
        have wy2 := wid_get g6 hyD
        have hw0' : ¬ w = 0 := by omega
        have hh0' : ¬ h = 0 := by omega
        have hw1 : IntKind.i64.wrap ((i : Int) + 1) = ((i + 1 : Nat) : Int) := wrap_ok (by omega) (by omega)
        by_cases t : l[i].2.tmod 2 = 1
        · simp [hi, hi2, hi2', hx, hy, hx2, hy2, hyU, hyD, g3, g4, wy1, wy2, hw0', hh0', hw1, t]
          rw [uw_set]
          obtain ⟨D', hD'⟩ : ∃ D', D' = D.set y (D[y].set x true) := ⟨_, rfl⟩
          have l' : D'.length = h := by rw [hD']; simp [g4]
          have w' : Wid w D' := by rw [hD']; exact wid_set g6 (by simp [wy2])
          rw [← hD']
          refine hK (i + 1, U, D') _ _ (by dsimp only; omega) ?_
          simp [g3, g5, l', w']
          omega
        · simp [hi, hi2, hi2', hx, hy, hx2, hy2, hyU, hyD, g3, g4, wy1, wy2, hw0', hh0', hw1, t]
          rw [uw_set]
          obtain ⟨D', hD'⟩ : ∃ D', D' = U.set y (U[y].set x true) := ⟨_, rfl⟩
          have l' : D'.length = h := by rw [hD']; simp [g3]
          have w' : Wid w D' := by rw [hD']; exact wid_set g5 (by simp [wy1])
          rw [← hD']
          refine hK (i + 1, D', D) _ _ (by dsimp only; omega) ?_
          simp [g4, g6, l', w']
          omega
      · have hi2' : ¬ (i : Int) < 200 := by omega
        simp [hi, hi2, hi2']
        refine hX _ _ _ ?_
        simp
        refine hR (PU w h U D) _ _ ⟨w, h, U, D, ⟨hw0, hw1, hw2, hh0, hh1, hh2, g3, g4, g5, g6⟩, rfl⟩ ?_
        simp [X9, g3, g4]
    · simp [hi]
      refine hX _ _ _ ?_
      simp
      refine hR (PU w h U D) _ _ ⟨w, h, U, D, ⟨hw0, hw1, hw2, hh0, hh1, hh2, g3, g4, g5, g6⟩, rfl⟩ ?_
      simp [X9, g3, g4]
end Go.Proofs.Ytalgbgeocpbadaa.K
