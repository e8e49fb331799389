/-
  Chapter 27: plates, troubles, pins made; strikes of the reference; lists copied.
-/
import Derived.Test.YtgdcogoacnghkaaQNuA
import Derived.Test.YtgdcogoacnghkaaQNkA
import Derived.Test.YtgdcogoacnghkaaMg5
namespace Go.Proofs.Ytgdcogoacnghkaa.N
set_option linter.unusedSimpArgs false
set_option linter.unusedVariables false
set_option linter.unusedSectionVars false
open Go.Proofs.Ytgdcogoacnghkaa.Am
set_option maxHeartbeats 4000000
abbrev T3 (p : Int × Int × Int) : PV := .agg [U8 p.1, U8 p.2.1, U8 p.2.2]
abbrev TL (l : List (Int × Int × Int)) : PV := .slc (l.map T3)
abbrev UL (l : List Int) : PV := .slc (l.map (.int .u8))
def b8 (n : Int) : Prop := 0 ≤ n ∧ n ≤ 255
def t8 (p : Int × Int × Int) : Prop := b8 p.1 ∧ b8 p.2.1 ∧ b8 p.2.2
theorem u8_ok {n : Int} (h1 : 0 ≤ n) (h2 : n ≤ 255) : IntKind.u8.wrap n = n := by
  simp [IntKind.wrap, IntKind.signed, IntKind.bits]
  omega
/-- a valid plate of 48 columns and 12 rows -/
structure Mad (u d : List (List Bool)) : Prop where
  lu : u.length = 12
  ld : d.length = 12
  wu : Wid 48 u
  wd : Wid 48 d
theorem Mad.valid {u d : List (List Bool)} (m : Mad u d) : validB 48 12 u d = true := by
  obtain ⟨lu, ld, wu, wd⟩ := m
  simp only [validB, sizeB, filled, Bool.and_eq_true, decide_eq_true_eq, Bool.not_eq_true', decide_eq_false_iff_not, List.all_eq_true]
  refine ⟨⟨⟨⟨⟨⟨⟨by decide, by decide⟩, by decide⟩, by decide⟩, by decide⟩, by decide⟩, by omega, fun r hr => ?_⟩, by omega, fun r hr => ?_⟩
  · rw [wu r hr]; rfl
  · rw [wd r hr]; rfl
theorem nr_pt (l : List (Int × Int)) : ∀ x, x ∈ l.map PT2 → noRefE x = true := fun x hx => by
  obtain ⟨r, _, rfl⟩ := List.mem_map.1 hx; rfl
@[simp ↓] theorem nr_mem_pt (l : List (Int × Int)) : (∀ x, x ∈ List.map PT2 l → noRefE x = true) = True := eq_true (nr_pt l)
@[simp] theorem nr_all_pt (l : List (Int × Int)) : (List.map PT2 l).all noRefE = true := List.all_eq_true.2 (nr_pt l)
@[simp] theorem frz_pt (l : List (Int × Int)) : List.map (frzE ∘ PT2) l = l.map PT2 := List.map_congr_left fun r _ => rfl
theorem nr_I (l : List Int) : ∀ x, x ∈ l.map I → noRefE x = true := fun x hx => by
  obtain ⟨r, _, rfl⟩ := List.mem_map.1 hx; rfl
/-- troubles: kind, place, pin -/
structure Tr where
  kind : Int
  pl : Int
  n : Int
  deriving DecidableEq
abbrev trC (t : Tr) : PV := .agg [I t.kind, I t.pl, I t.n]
abbrev TRS (l : List Tr) : PV := .slc (l.map trC)
theorem nr_tr (l : List Tr) : ∀ x, x ∈ l.map trC → noRefE x = true := fun x hx => by
  obtain ⟨r, _, rfl⟩ := List.mem_map.1 hx; rfl
@[simp ↓] theorem nr_mem_tr (l : List Tr) : (∀ x, x ∈ List.map trC l → noRefE x = true) = True := eq_true (nr_tr l)
@[simp] theorem nr_all_tr (l : List Tr) : (List.map trC l).all noRefE = true := List.all_eq_true.2 (nr_tr l)
@[simp] theorem frz_tr (l : List Tr) : List.map (frzE ∘ trC) l = l.map trC := List.map_congr_left fun r _ => rfl
theorem Made_fn (l : List (Int × Int × Int)) (hl : ∀ p ∈ l, t8 p) : ∃ u d, Mad u d ∧ Am.Fn Try.prog 11 [0, 0, 1, 1] [.agg [TL l]] (PU 48 12 u d) := by
  suffices hh : ∃ r, (∃ (u d : List (List Bool)), Mad u d ∧ r = PU 48 12 u d) ∧ Am.Fn Try.prog 11 [0, 0, 1, 1] [.agg [TL l]] r by
    obtain ⟨r, ⟨u, d, h1, rfl⟩, h2⟩ := hh; exact ⟨u, d, h1, h2⟩
  have hB := New_fn 48 12 (by omega) (by omega)
  have lB := blank_len 48 12
  have wB := wid_blank 48 12
  unfold blankD at lB wB
  generalize List.replicate 12 (List.replicate 48 false) = B at hB lB wB
  refine fn_introE mixed (X := X11) c11 17 (by simp [X11]) (by kernel_rfl) fun Q hR hN => ?_
  simp [X11]
  refine loopX (fun (p : Nat × List (Int × Int) × List (Int × Int)) vs h' => p.1 ≤ 24 ∧ p.2.1.length ≤ p.1 ∧ p.2.2.length ≤ p.1 ∧ vs = [.undef, .ptr 13 1 0, .ptr 14 1 0, .own 15 1 p.2.1.length 2 0 p.2.1.length, .own 16 1 p.2.2.length 2 0 p.2.2.length, I p.1, .undef, .undef, .undef] ∧
    h' = [dd, dd, dd, dd, dd, dd, dd, dd, dd, dd, dd, dd, dd, (1, .var [TL l]), (1, .var [I 0, I 0, .nils, .nils]), (1, .arr 2 0 false (p.2.1.map PT2)), (1, .arr 2 0 false (p.2.2.map PT2))]) (fun p => 24 - p.1) (0, [], []) ?_ ?_
  · simp
  · rintro ⟨i, U, D⟩ vs h' ⟨g1, g2, g3, rfl, rfl⟩ Q' hK hX hR'
    dsimp only at g1 g2 g3
    have hend : ∀ x, Q' (.exit 0) [.undef, .ptr 13 1 0, .ptr 14 1 0, .own 15 1 U.length 2 0 U.length, .own 16 1 D.length 2 0 D.length, I i, .undef, x, .undef] [dd, dd, dd, dd, dd, dd, dd, dd, dd, dd, dd, dd, dd, (1, .var [TL l]), (1, .var [I 0, I 0, .nils, .nils]), (1, .arr 2 0 false (U.map PT2)), (1, .arr 2 0 false (D.map PT2))] := fun x => by
      have P1 := Plot_fn 48 12 B U (by omega) (by omega) lB wB (by omega)
      have P2 := Plot_fn 48 12 B D (by omega) (by omega) lB wB (by omega)
      have fB : List.take 12 (List.map (frzE ∘ UW) B) = B.map RW := by rw [← lB]; exact frz_take B
      refine hX _ _ _ ?_
      simp
      refine call_of hB ?_
      simp [lB, fB]
      refine call_of P1 ?_
      simp [plotD_len, lB]
      refine call_of hB ?_
      simp [lB, fB]
      refine call_of P2 ?_
      simp [plotD_len, lB]
      refine hR _ _ _ ⟨plotD 48 12 B U, plotD 48 12 B D, ⟨by rw [plotD_len, lB], by rw [plotD_len, lB], plotD_wid wB, plotD_wid wB⟩, rfl⟩ ?_
      simp [X11, plotD_len, lB]
    by_cases hi : i < l.length
    case neg => simp [hi]; exact hend _
    by_cases hi2 : i < 24
    case neg =>
      have hi3 : ¬ (i : Int) < 24 := by omega
      simp [hi, hi3]; exact hend _
    have hi3 : (i : Int) < 24 := by omega
    obtain ⟨⟨p1, p2⟩, ⟨p3, p4⟩, p5, p6⟩ := hl _ (List.getElem_mem hi)
    have e1 : IntKind.i64.wrap l[i].2.1 = l[i].2.1 := wrap_ok (by omega) (by omega)
    have e2 : IntKind.i64.wrap l[i].2.2 = l[i].2.2 := wrap_ok (by omega) (by omega)
    have hw1 : IntKind.i64.wrap ((i : Int) + 1) = ((i + 1 : Nat) : Int) := wrap_ok (by omega) (by omega)
    have hc1 : (U.length + 1) * 16 ≤ 140737488355328 := by omega
    have hc2 : (D.length + 1) * 16 ≤ 140737488355328 := by omega
    by_cases t : l[i].1.tmod 2 = 0
    · simp [hi, hi3, e1, e2, t, hw1, hc1]
      refine hK (i + 1, U ++ [(l[i].2.1.tmod 48, l[i].2.2.tmod 12)], D) _ _ (by dsimp only; omega) ?_
      simp
      omega
    · simp [hi, hi3, e1, e2, t, hw1, hc2]
      refine hK (i + 1, U, D ++ [(l[i].2.1.tmod 48, l[i].2.2.tmod 12)]) _ _ (by dsimp only; omega) ?_
      simp
      omega
def trOf (p : Int × Int × Int) : Tr := ⟨p.1 % 6, p.2.1 % 16 - 1, p.2.2 % 100 - 2⟩
theorem Pins_fn (l : List Int) (hl : ∀ n ∈ l, b8 n) : Am.Fn Try.prog 12 [1] [UL l] (.uslc (((l.take 4).map (· % 100 - 2)).map I)) := by
  refine fn_introX mixed (X := X12) c12 4 (by simp [X12]) fun Q hR hN => ?_
  simp [X12]
  refine loopX (fun (p : Nat × List Int) vs h' => p.1 ≤ 4 ∧ p.1 ≤ l.length ∧ p.2 = (l.take p.1).map (· % 100 - 2) ∧ vs = [UL l, .undef, .own 3 1 p.2.length 1 0 p.2.length, I p.1, .undef] ∧ h' = [dd, dd, dd, (1, .arr 1 0 false (p.2.map I))]) (fun p => 4 - p.1) (0, []) ?_ ?_
  · simp
  · rintro ⟨i, U⟩ vs h' ⟨g1, g0, g2, rfl, rfl⟩ Q' hK hX hR'
    dsimp only at g1 g2 g0
    have lU : U.length ≤ 4 := by rw [g2]; simp; omega
    have hend : U = (l.take 4).map (· % 100 - 2) → ∀ x, Q' (.exit 0) [UL l, .undef, .own 3 1 U.length 1 0 U.length, I i, x] [dd, dd, dd, (1, .arr 1 0 false (U.map I))] := fun e x => by
      refine hX _ _ _ ?_
      simp
      refine hR _ _ ?_
      have n1 := nr_I U
      have n2 : (l.take 4).map (fun x => I (x % 100 - 2)) = U.map I := by rw [e, List.map_map]; rfl
      subst e
      simp only [List.map_map, List.map_take] at n1
      simp [X12]
      exact n1
    by_cases hi : i < l.length
    case neg => simp [hi]; refine hend ?_ _; rw [g2, List.take_of_length_le (by omega), List.take_of_length_le (by omega)]
    by_cases hi2 : i < 4
    case neg =>
      have hi3 : ¬ (i : Int) < 4 := by omega
      obtain rfl : i = 4 := by omega
      have hi4 : (4 : Int) < l.length := by omega
      simp [hi4, show ¬ (4 : Int) < 4 by omega]; exact hend g2 _
    have hi3 : (i : Int) < 4 := by omega
    obtain ⟨p1, p2⟩ := hl _ (List.getElem_mem hi)
    have e1 : IntKind.i64.wrap l[i] = l[i] := wrap_ok (by omega) (by omega)
    have e2 : l[i].tmod 100 = l[i] % 100 := Int.tmod_eq_emod_of_nonneg p1
    have e3 : IntKind.i64.wrap (l[i] % 100 - 2) = l[i] % 100 - 2 := wrap_ok (by omega) (by omega)
    have hw1 : IntKind.i64.wrap ((i : Int) + 1) = ((i + 1 : Nat) : Int) := wrap_ok (by omega) (by omega)
    have hc1 : (U.length + 1) * 8 ≤ 140737488355328 := by omega
    simp [hi, hi3, e1, e2, e3, hw1, hc1]
    refine hK (i + 1, U ++ [l[i] % 100 - 2]) _ _ (by dsimp only; omega) ?_
    simp
    exact ⟨by omega, by omega, by have hs := congrArg (List.map (· % 100 - 2)) (take_snoc hi); rw [List.map_append, ← g2] at hs; simpa using hs.symm⟩
theorem Troubles_fn (l : List (Int × Int × Int)) (hl : ∀ p ∈ l, t8 p) : Am.Fn Try.prog 13 [3] [TL l] (.uslc (((l.take 5).map trOf).map trC)) := by
  refine fn_introX mixed (X := X13) c13 4 (by simp [X13]) fun Q hR hN => ?_
  simp [X13]
  refine loopX (fun (p : Nat × List Tr) vs h' => p.1 ≤ 5 ∧ p.1 ≤ l.length ∧ p.2 = (l.take p.1).map trOf ∧ vs = [TL l, .undef, .own 3 1 p.2.length 3 0 p.2.length, I p.1, .undef] ∧ h' = [dd, dd, dd, (1, .arr 3 0 false (p.2.map trC))]) (fun p => 5 - p.1) (0, []) ?_ ?_
  · simp
  · rintro ⟨i, U⟩ vs h' ⟨g1, g0, g2, rfl, rfl⟩ Q' hK hX hR'
    dsimp only at g1 g2 g0
    have lU : U.length ≤ 5 := by rw [g2]; simp; omega
    have hend : U = (l.take 5).map trOf → ∀ x, Q' (.exit 0) [TL l, .undef, .own 3 1 U.length 3 0 U.length, I i, x] [dd, dd, dd, (1, .arr 3 0 false (U.map trC))] := fun e x => by
      refine hX _ _ _ ?_
      simp
      refine hR _ _ ?_
      have n1 := nr_tr U
      subst e
      simp only [List.map_map, List.map_take] at n1
      simp [X13]
      exact n1
    by_cases hi : i < l.length
    case neg => simp [hi]; refine hend ?_ _; rw [g2, List.take_of_length_le (by omega), List.take_of_length_le (by omega)]
    by_cases hi2 : i < 5
    case neg =>
      have hi3 : ¬ (i : Int) < 5 := by omega
      obtain rfl : i = 5 := by omega
      have hi4 : (5 : Int) < l.length := by omega
      simp [hi4]; exact hend g2 _
    have hi3 : (i : Int) < 5 := by omega
    obtain ⟨⟨p1, p2⟩, ⟨p3, p4⟩, p5, p6⟩ := hl _ (List.getElem_mem hi)
    have e1 : IntKind.i64.wrap l[i].1 = l[i].1 := wrap_ok (by omega) (by omega)
    have e2 : IntKind.i64.wrap l[i].2.1 = l[i].2.1 := wrap_ok (by omega) (by omega)
    have e3 : IntKind.i64.wrap l[i].2.2 = l[i].2.2 := wrap_ok (by omega) (by omega)
    have m1 : l[i].1.tmod 6 = l[i].1 % 6 := Int.tmod_eq_emod_of_nonneg p1
    have m2 : l[i].2.1.tmod 16 = l[i].2.1 % 16 := Int.tmod_eq_emod_of_nonneg p3
    have m3 : l[i].2.2.tmod 100 = l[i].2.2 % 100 := Int.tmod_eq_emod_of_nonneg p5
    have f2 : IntKind.i64.wrap (l[i].2.1 % 16 - 1) = l[i].2.1 % 16 - 1 := wrap_ok (by omega) (by omega)
    have f3 : IntKind.i64.wrap (l[i].2.2 % 100 - 2) = l[i].2.2 % 100 - 2 := wrap_ok (by omega) (by omega)
    have hw1 : IntKind.i64.wrap ((i : Int) + 1) = ((i + 1 : Nat) : Int) := wrap_ok (by omega) (by omega)
    have hc1 : (U.length + 1) * 24 ≤ 140737488355328 := by omega
    simp [hi, hi3, e1, e2, e3, m1, m2, m3, f2, f3, hw1, hc1]
    refine hK (i + 1, U ++ [trOf l[i]]) _ _ (by dsimp only; omega) ?_
    simp [trOf]
    exact ⟨by omega, by omega, by have hs := congrArg (List.map trOf) (take_snoc hi); rw [List.map_append, ← g2] at hs; simpa [trOf] using hs.symm⟩
theorem struckP_fn (w h : Nat) (u d : List (List Bool)) (s : Stk) (worn : List Int) (hw : w ≤ 200) (hh : h ≤ 200) (hu : u.length = h) (hd : d.length = h) (wu : Wid w u) (wd : Wid w d) (l1 : s.up.length ≤ 100000) (l2 : s.down.length ≤ 100000) (b1 : ∀ x ∈ s.up, 0 ≤ x ∧ x ≤ 1000) (b2 : ∀ x ∈ s.down, 0 ≤ x ∧ x ≤ 1000) (hl : worn.length ≤ 100000) :
    Am.Fn Try.prog 38 [0, 0, 1, 1] [PC w h u d, stC s, IL worn] (PU w h (plotD w h u (dotsG s.up 0 s.row worn)) (plotD w h d (dotsG s.down w s.row worn))) := by
  have D1 := dots_fn s.up worn 0 s.row l1 hl (by omega) b1
  have D2 := dots_fn s.down worn w s.row l2 hl (by omega) b2
  have n1 := dotsG_len (cols := s.up) (worn := worn) (pin := 0) (row := s.row)
  have n2 := dotsG_len (cols := s.down) (worn := worn) (pin := w) (row := s.row)
  have P1 := Plot_fn w h u (dotsG s.up 0 s.row worn) hw hh hu wu (by omega)
  have P2 := Plot_fn w h d (dotsG s.down w s.row worn) hw hh hd wd (by omega)
  refine fn_introX mixed (X := X38) c38 11 (by simp [X38]) fun Q hR hN => ?_
  simp [X38]
  refine call_of (front_fn w h u d) ?_
  simp
  refine call_of D1 ?_
  simp
  refine call_of P1 ?_
  simp [plotD_len, hu]
  refine call_of (back_fn w h u d) ?_
  simp
  refine call_of D2 ?_
  simp
  refine call_of P2 ?_
  simp [plotD_len, hu, hd]
  refine hR _ _ ?_
  simp [X38, plotD_len, hu, hd]
theorem Clone_fn (l : List Int) (hl : l.length ≤ 100000) : Am.Fn Try.prog 34 [1] [IL l] (.uslc (l.map I)) := by
  cases l with
  | nil =>
    refine Fn_emp (pre := []) (post := []) (Fn_nil (by omega) ?_) ?_
    · refine fn_introX mixed (X := X34) c34 3 (by simp [X34]) fun Q hR hN => ?_
      simp [X34]
      refine hR _ _ ?_
      simp [X34]
    · refine fn_introX mixed (X := X34) c34 3 (by simp [X34]) fun Q hR hN => ?_
      simp [X34]
      refine hR _ _ ?_
      simp [X34]
  | cons x r =>
    have hc : (x :: r).length * 8 ≤ 140737488355328 := by omega
    refine fn_introX mixed (X := X34) c34 3 (by simp [X34]) fun Q hR hN => ?_
    simp at hc
    simp [X34, hc]
    refine hR _ _ ?_
    simp [X34]
end Go.Proofs.Ytgdcogoacnghkaa.N
