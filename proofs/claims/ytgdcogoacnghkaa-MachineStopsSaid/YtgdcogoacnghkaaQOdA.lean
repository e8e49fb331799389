/-
  Chapter 27: the fixed examples.
-/
import Derived.Test.YtgdcogoacnghkaaQObA
import Derived.Test.YtgdcogoacnghkaaQOcP
import Derived.Test.YtgdcogoacnghkaaQOdX
namespace Go.Proofs.Ytgdcogoacnghkaa.N
set_option linter.unusedSimpArgs false
set_option linter.unusedVariables false
set_option linter.unusedSectionVars false
open Go.Proofs.Ytgdcogoacnghkaa.Am
set_option maxHeartbeats 4000000
def flat (l : List (Int × Int)) : List Int := l.flatMap fun p => [p.1, p.2]
theorem flat_len : ∀ l : List (Int × Int), (flat l).length = 2 * l.length
  | [] => rfl
  | p :: l => by
    have := flat_len l
    simp only [flat, List.flatMap_cons, List.length_append, List.length_cons, List.length_nil] at this ⊢
    omega
theorem flat_get : ∀ (l : List (Int × Int)) (k : Nat) (h : k < l.length), (flat l)[2 * k]? = some l[k].1 ∧ (flat l)[2 * k + 1]? = some l[k].2
  | [], k, h => by simp at h
  | p :: l, 0, h => ⟨rfl, rfl⟩
  | p :: l, k + 1, h => by
    obtain ⟨h1, h2⟩ := flat_get l k (by simpa using h)
    have e : flat (p :: l) = p.1 :: p.2 :: flat l := rfl
    rw [e, show 2 * (k + 1) = 2 * k + 1 + 1 by omega, List.getElem?_cons_succ, List.getElem?_cons_succ, h1, List.getElem?_cons_succ, List.getElem?_cons_succ, h2]
    exact ⟨rfl, rfl⟩
theorem plate_fn (l : List (Int × Int)) (hl : l.length ≤ 1000) (hb : ∀ p ∈ l, (0 ≤ p.1 ∧ p.1 < 48) ∧ (0 ≤ p.2 ∧ p.2 < 12)) : Am.Fn Try.prog 29 [0, 0, 1, 1] [IL (flat l)] (PU 48 12 (plotD 48 12 (blankD 48 12) l) (blankD 48 12)) := by
  have hB := RBlank_fn 48 12 (by omega) (by omega)
  have lB := blank_len 48 12
  have wB := wid_blank 48 12
  have fl := flat_len l
  obtain ⟨B, hBB⟩ : ∃ B, blankD 48 12 = B := ⟨_, rfl⟩
  rw [hBB] at hB lB wB ⊢
  clear hBB
  refine fn_introX mixed (X := X29) c29 8 (by simp [X29]) fun Q hR hN => ?_
  simp [X29]
  refine call_of hB ?_
  simp [lB]
  refine loopX (fun (p : Nat × Nat × List (List Bool)) vs h' => p.1 ≤ l.length ∧ p.2.1 = 2 * p.1 ∧ p.2.2 = plotD 48 12 B (l.take p.1) ∧ vs = [IL (flat l), .ptr 4 1 0, .ptr 5 1 0, I p.2.1, .undef] ∧
    h' = [dd, dd, dd, dd, (1, .var [I 0, I 0, .nils, .nils]), (1, .var [I 48, I 12, .own 6 1 12 1 0 12, .own 7 1 12 1 0 12]), dRow p.2.2, dRow B]) (fun p => l.length - p.1) (0, 0, B) ?_ ?_
  · simp [plotD]
  · rintro ⟨k, i, U⟩ vs h' ⟨h1, h0, h2, rfl, rfl⟩ Q' hK hX hR'
    dsimp only at h1 h2 h0
    have e1 : IntKind.i64.wrap ((i : Int) + 1) = ((i + 1 : Nat) : Int) := wrap_ok (by omega) (by omega)
    have e2 : IntKind.i64.wrap ((i : Int) + 2) = ((i + 2 : Nat) : Int) := wrap_ok (by omega) (by omega)
    have lU : U.length = 12 := by rw [h2, plotD_len, lB]
    have wU : Wid 48 U := by rw [h2]; exact plotD_wid wB
    have z1 : 0 ≤ (i : Int) + 1 := by omega
    have z2 : ((i : Int) + 1).toNat = i + 1 := by omega
    by_cases hk : k < l.length
    · have f1 : i + 1 < (flat l).length := by omega
      have f0 : i < (flat l).length := by omega
      obtain ⟨q1, q2⟩ := flat_get l k hk
      rw [← h0, List.getElem?_eq_getElem f0, Option.some.injEq] at q1
      rw [← h0, List.getElem?_eq_getElem f1, Option.some.injEq] at q2
      obtain ⟨⟨b1, b2⟩, b3, b4⟩ := hb _ (List.getElem_mem hk)
      obtain ⟨x, hx⟩ : ∃ x : Nat, l[k].1 = x := ⟨l[k].1.toNat, by omega⟩
      obtain ⟨y, hy⟩ : ∃ y : Nat, l[k].2 = y := ⟨l[k].2.toNat, by omega⟩
      rw [hx] at q1; rw [hy] at q2
      have hx1 : x < 48 := by omega
      have hx2 : (x : Int) < 48 := by omega
      have hy1 : y < 12 := by omega
      have hy2 : (y : Int) < 12 := by omega
      have hyU : y < U.length := by omega
      have wUy := wid_get wU hyU
      have hs := plotD_snoc (w := 48) (h := 12) (d := B) hk
      rw [← h2] at hs
      have e := plot1_set hx1 hy1 hyU hx hy
      rw [← hs] at e
      have f2 : (i : Int) + 1 < ((flat l).length : Int) := by omega
      have f3 : (i : Int) < ((flat l).length : Int) := by omega
      simp [e1, e2, f0, f1, f2, f3, q1, q2, hx1, hx2, hy1, hy2, lU, hyU, wUy, z1, z2]
      rw [uw_set, e]
      refine hK (k + 1, i + 2, plotD 48 12 B (l.take (k + 1))) _ _ (by dsimp only; omega) ?_
      simp [plotD_len, lB]
      omega
    · obtain rfl : k = l.length := by omega
      rw [List.take_length] at h2
      have f2 : ¬ (i : Int) + 1 < ((flat l).length : Int) := by omega
      simp [e1, f2]
      refine hX _ _ _ ?_
      simp
      refine hR _ _ ?_
      simp [X29, lU, h2, plotD_len, lB]
def sB : List (List Bool) := blankD 48 12
def sU (l : List (Int × Int)) : List (List Bool) := plotD 48 12 (blankD 48 12) l
theorem sU_mad (l : List (Int × Int)) : Mad (sU l) sB := ⟨by unfold sU; rw [plotD_len, blank_len], blank_len _ _, plotD_wid (wid_blank _ _), wid_blank _ _⟩
abbrev p3 : List (Int × Int) := [(0, 0), (1, 0), (0, 1)]
abbrev p2 : List (Int × Int) := [(0, 0), (1, 0)]
abbrev p4 : List (Int × Int) := [(0, 0), (1, 0), (0, 2)]
theorem mk_a : makeG (sU p3) sB 2 [] [] = ⟨sU p3, sB, 2, 0, [], false⟩ := by kernel_rfl
theorem mk_b : makeG (sU p3) sB 2 [] [⟨1, 1, 0⟩] = ⟨sU p2, sB, 1, 0, [], true⟩ := by kernel_rfl
theorem mk_c : makeG (sU p3) sB 2 [] [⟨2, 1, 0⟩] = ⟨sU p4, sB, 2, 1, [], false⟩ := by kernel_rfl
theorem mk_d : makeG (sU p3) sB 2 [] [⟨3, 1, 0⟩] = ⟨sU p2, sB, 2, 0, [0], false⟩ := by kernel_rfl
theorem mk_f : makeG (sU p3) sB 2 [] [⟨4, 2, 0⟩] = ⟨sU p3, sB, 2, 0, [], false⟩ := by kernel_rfl
theorem sc_b : scanG 48 0 (sU p3) sB (sU p2) sB = [(0, 1)] := by kernel_rfl
theorem sc_c : scanG 48 0 (sU p3) sB (sU p4) sB = [(0, 1), (0, 2)] := by kernel_rfl
theorem sanity_fn : Am.Fn Try.prog 10 [0] [] (.bool true) := by
  have m3 := sU_mad p3
  have m2 := sU_mad p2
  have m4 := sU_mad p4
  have P3 : Am.Fn Try.prog 29 [0, 0, 1, 1] [IL [0, 0, 1, 0, 0, 1]] (PU 48 12 (sU p3) sB) := plate_fn p3 (by simp) (by simp)
  have P2 : Am.Fn Try.prog 29 [0, 0, 1, 1] [IL [0, 0, 1, 0]] (PU 48 12 (sU p2) sB) := plate_fn p2 (by simp) (by simp)
  have P4 : Am.Fn Try.prog 29 [0, 0, 1, 1] [IL [0, 0, 1, 0, 0, 2]] (PU 48 12 (sU p4) sB) := plate_fn p4 (by simp) (by simp)
  have hM := fun tr htr => Make_fn (sU p3) sB 2 [] tr _ m3 (by omega) (by omega) rfl (m3.plan (by omega) (by omega)) (by simp) htr
  have A := hM [] (by simp)
  have Bb := hM [⟨1, 1, 0⟩] (by simp)
  have C := hM [⟨2, 1, 0⟩] (by simp)
  have Dd := hM [⟨3, 1, 0⟩] (by simp)
  have F := hM [⟨4, 2, 0⟩] (by simp)
  rw [mk_a] at A; rw [mk_b] at Bb; rw [mk_c] at C; rw [mk_d] at Dd; rw [mk_f] at F
  simp only [outG] at A Bb C Dd F
  clear hM
  have Z2 := Sized_fn 48 12 48 12 (sU p2) sB
  have Z4 := Sized_fn 48 12 48 12 (sU p4) sB
  rw [m2.gval.1, m2.gval.2, decide_eq_true ⟨rfl, rfl⟩] at Z2
  rw [m4.gval.1, m4.gval.2, decide_eq_true ⟨rfl, rfl⟩] at Z4
  have S := fun (a : Oc) h1 h2 h3 => Same_fn a a h1 h2 h3
  have Sa := S ⟨48, 12, sU p3, sB, 2, true, []⟩ m3.rws.1 m3.rws.2 (by simp)
  have Sb := S ⟨48, 12, sU p2, sB, 1, false, []⟩ m2.rws.1 m2.rws.2 (by simp)
  have Sc := S ⟨48, 12, sU p4, sB, 2, true, []⟩ m4.rws.1 m4.rws.2 (by simp)
  have Sd := S ⟨48, 12, sU p2, sB, 2, true, [0]⟩ m2.rws.1 m2.rws.2 (by simp)
  rw [decide_eq_true ⟨rfl, ⟨rfl, rfl, rfl, rfl⟩, rfl, rfl⟩] at Sa Sb Sc Sd
  clear S
  have Ga := Good_fn 48 12 (sU p3) sB ⟨48, 12, sU p3, sB, 2, true, []⟩ m3.rws.1 m3.rws.2
  have Gb := Good_fn 48 12 (sU p3) sB ⟨48, 12, sU p2, sB, 1, false, []⟩ m2.rws.1 m2.rws.2
  rw [decide_eq_true ⟨rfl, rfl, rfl, rfl⟩] at Ga
  have Cb := Scan_fn (sU p3) sB (sU p2) sB 1 false [] m3 m2
  have Cc := Scan_fn (sU p3) sB (sU p4) sB 2 true [] m3 m4
  rw [sc_b] at Cb; rw [sc_c] at Cc
  have Q1 := SamePoints_fn [(0, 1)] [(0, 1)] (by simp)
  have Q2 := SamePoints_fn [(0, 1), (0, 2)] [(0, 1), (0, 2)] (by simp)
  rw [decide_eq_true rfl] at Q1 Q2
  have l2 := m2.lu; have l3 := m3.lu; have l4 := m4.lu; have lB := m2.ld
  have f2 : List.take 12 (List.map (frzE ∘ UW) (sU p2)) = (sU p2).map RW := by rw [← l2]; exact frz_take _
  have f3 : List.take 12 (List.map (frzE ∘ UW) (sU p3)) = (sU p3).map RW := by rw [← l3]; exact frz_take _
  have f4 : List.take 12 (List.map (frzE ∘ UW) (sU p4)) = (sU p4).map RW := by rw [← l4]; exact frz_take _
  have fB : List.take 12 (List.map (frzE ∘ UW) sB) = sB.map RW := by rw [← lB]; exact frz_take _
  clear m2 m3 m4
  refine fn_introX mixed (X := X10) c10 31 (by simp [X10]) fun Q hR hN => ?_
  generalize sU p2 = u2 at *
  generalize sU p3 = u3 at *
  generalize sU p4 = u4 at *
  generalize sB = b at *
  simp [X10]
  refine call_of P3 ?_
  simp [l3, lB, f3, fB]
  refine call_of A ?_
  simp [l3, lB, f3, fB]
  refine call_of Bb ?_
  simp [l2, l3, lB, f3, fB]
  refine call_of C ?_
  simp [l4, l3, lB, f3, fB]
  refine call_of Dd ?_
  simp [l2, l3, lB, f3, fB]
  refine call_of F ?_
  simp [l2, l3, l4, lB, f2, f3, f4, fB]
  refine call_of Z2 ?_
  simp [l2, l3, l4, lB, f2, f3, f4, fB]
  refine call_of Z4 ?_
  simp [l2, l3, l4, lB, f2, f3, f4, fB]
  refine call_of Sa ?_
  simp [l2, l3, l4, lB, f2, f3, f4, fB]
  refine call_of Ga ?_
  simp [l2, l3, l4, lB, f2, f3, f4, fB]
  refine call_of P2 ?_
  simp [l2, l3, l4, lB, f2, f3, f4, fB]
  refine call_of Sb ?_
  simp [l2, l3, l4, lB, f2, f3, f4, fB]
  refine call_of Gb ?_
  simp [l2, l3, l4, lB, f2, f3, f4, fB]
  refine call_of P4 ?_
  simp [l2, l3, l4, lB, f2, f3, f4, fB]
  refine call_of Sc ?_
  simp [l2, l3, l4, lB, f2, f3, f4, fB]
  refine call_of P2 ?_
  simp [l2, l3, l4, lB, f2, f3, f4, fB]
  refine call_of Sd ?_
  simp [l2, l3, l4, lB, f2, f3, f4, fB]
  refine call_of Ga ?_
  simp [l2, l3, l4, lB, f2, f3, f4, fB]
  refine call_of Cb ?_
  simp [l2, l3, l4, lB, f2, f3, f4, fB]
  refine call_of Q1 ?_
  simp [l2, l3, l4, lB, f2, f3, f4, fB]
  refine call_of Cc ?_
  simp [l2, l3, l4, lB, f2, f3, f4, fB]
  refine call_of Q2 ?_
  simp
  refine hR _ _ ?_
  simp [X10]
end Go.Proofs.Ytgdcogoacnghkaa.N
