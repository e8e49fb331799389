/-
  Chapter 26: strikes performed.
-/
import Derived.Test.YtgdcogoacnghkaaQNjA
namespace Go.Proofs.Ytgdcogoacnghkaa.N
set_option linter.unusedSimpArgs false
set_option linter.unusedVariables false
set_option linter.unusedSectionVars false
open Go.Proofs.Ytgdcogoacnghkaa.Am
set_option maxHeartbeats 4000000
/-- what performing strikes gives -/
structure Out where
  w : Int
  h : Int
  u : List (List Bool)
  d : List (List Bool)
  n : Int
  e : Int
abbrev outU (o : Out) : PV := .agg [I o.w, I o.h, UR o.u, UR o.d, I o.n, I o.e]
abbrev outT (o : Out) : PV := .tup [PU o.w o.h o.u o.d, I o.n, I o.e]
def applyG (w h : Nat) : Nat → List (List Bool) → List (List Bool) → List Stk → Out
  | k, u, d, [] => ⟨w, h, u, d, k, 0⟩
  | k, u, d, s :: r => if poss w h s then applyG w h (k + 1) (modR u s.row.toNat s.up) (modR d s.row.toNat s.down) r else ⟨0, 0, [], [], k, 270⟩
def applyO (w h : Int) (l : List Stk) : Out := if sizeB w h then applyG w.toNat h.toNat 0 (blankD w.toNat h.toNat) (blankD w.toNat h.toNat) l else ⟨0, 0, [], [], 0, 1⟩
theorem size_spec {w h : Int} (hs : sizeB w h = true) : 48 ≤ w ∧ w ≤ 120 ∧ 12 ≤ h ∧ h ≤ 120 := by
  simp only [sizeB, Bool.and_eq_true, decide_eq_true_eq, Bool.not_eq_true', decide_eq_false_iff_not] at hs
  obtain ⟨⟨⟨⟨⟨a1, a2⟩, a3⟩, a4⟩, a5⟩, a6⟩ := hs
  have hw : 0 ≤ w := by
    by_cases h0 : 0 ≤ w
    · exact h0
    · exfalso
      have e : w.tdiv 2 = -((-w).tdiv 2) := by rw [Int.neg_tdiv, Int.neg_neg]
      rw [Int.tdiv_eq_ediv_of_nonneg (a := -w) (by omega)] at e
      omega
  have hh : 0 ≤ h := by
    by_cases h0 : 0 ≤ h
    · exact h0
    · exfalso
      have e : h.tdiv 3 = -((-h).tdiv 3) := by rw [Int.neg_tdiv, Int.neg_neg]
      rw [Int.tdiv_eq_ediv_of_nonneg (a := -h) (by omega)] at e
      omega
  rw [Int.tdiv_eq_ediv_of_nonneg (by omega)] at a2 a3 a5 a6
  rw [Int.tmod_eq_emod_of_nonneg (by omega)] at a1 a4
  omega
theorem filled_blank (w h : Nat) : filled (blankD w h) w h = true := by
  simp [filled, blank_len]
  intro r hr
  rw [List.eq_of_mem_replicate hr]; simp
theorem validB_blank (w h : Nat) : validB w h (blankD w h) (blankD w h) = sizeB w h := by
  simp [validB, filled_blank]
theorem frz_uw (B : List (List Bool)) : List.map (frzE ∘ UW) B = B.map RW := List.map_congr_left fun r _ => by
  rfl
theorem frz_take (B : List (List Bool)) : List.take B.length (List.map (frzE ∘ UW) B) = B.map RW := by rw [frz_uw, List.take_of_length_le (by simp)]
theorem Apply_fn (w h : Int) (l : List Stk) (hl : Sks l) : Am.Fn Try.prog 33 [0, 0, 1, 1, 0, 0] [I w, I h, .slc (l.map stC)] (outT (applyO w h l)) := by
  obtain ⟨hl1, hl2⟩ := hl
  refine fn_introX mixed (X := X33) c33 12 (by simp [X33]) fun Q hR hN => ?_
  by_cases w1 : w < 48
  · have hs : sizeB w h = false := Bool.eq_false_iff.2 fun e => by have := size_spec e; omega
    simp [X33, w1]
    refine hR _ _ ?_
    simp [X33, applyO, hs]
  by_cases w2 : 120 < w
  · have hs : sizeB w h = false := Bool.eq_false_iff.2 fun e => by have := size_spec e; omega
    simp [X33, w1, w2]
    refine hR _ _ ?_
    simp [X33, applyO, hs]
  by_cases h1 : h < 12
  · have hs : sizeB w h = false := Bool.eq_false_iff.2 fun e => by have := size_spec e; omega
    simp [X33, w1, w2, h1]
    refine hR _ _ ?_
    simp [X33, applyO, hs]
  by_cases h2 : 120 < h
  · have hs : sizeB w h = false := Bool.eq_false_iff.2 fun e => by have := size_spec e; omega
    simp [X33, w1, w2, h1, h2]
    refine hR _ _ ?_
    simp [X33, applyO, hs]
  obtain ⟨W, rfl⟩ : ∃ W : Nat, w = W := ⟨w.toNat, by omega⟩
  obtain ⟨H, rfl⟩ : ∃ H : Nat, h = H := ⟨h.toNat, by omega⟩
  have hB := blank_fn W H (by omega) (by omega)
  have lB := blank_len W H
  have wB := wid_blank W H
  have hV := Valid_fn W H (blankD W H) (blankD W H) (by omega) (by omega) (by omega) (by omega)
  rw [validB_blank] at hV
  have hA : applyO W H l = if sizeB W H then applyG W H 0 (blankD W H) (blankD W H) l else ⟨0, 0, [], [], 0, 1⟩ := rfl
  generalize blankD W H = B at hB lB wB hV hA
  simp [X33, w1, w2, h1, h2]
  refine call_of hB ?_
  simp
  refine call_of hB ?_
  simp [frz_take]
  refine call_of hV ?_
  by_cases hs : sizeB W H = true
  · rw [if_pos hs] at hA
    simp [hs]
    refine loopX (fun (p : Nat × List (List Bool) × List (List Bool)) vs h' => p.1 ≤ l.length ∧ applyO W H l = applyG W H p.1 p.2.1 p.2.2 (l.drop p.1) ∧ p.2.1.length = H ∧ p.2.2.length = H ∧ Wid W p.2.1 ∧ Wid W p.2.2 ∧ vs = [I W, I H, .slc (l.map stC), .ptr 7 1 0, .undef, .undef, .ptr 8 1 0, .undef, .undef, .undef, .undef, .slc (l.map stC), I l.length, I p.1, .undef, .undef] ∧
      h' = [dd, dd, dd, dd, dd, dd, dd, (1, .var [I 0, I 0, .nils, .nils]), (1, .var [I W, I H, .own 9 1 H 1 0 H, .own 10 1 H 1 0 H]), (1, .arr 1 0 false (p.2.1.map UW)), (1, .arr 1 0 false (p.2.2.map UW)), dd]) (fun p => l.length - p.1) (0, B, B) ?_ ?_
    · simp [hA, lB, wB]
    · rintro ⟨k, U, D⟩ vs h' ⟨g1, g2, g3, g4, g5, g6, rfl, rfl⟩ Q' hK hX hR'
      dsimp only at g1 g2 g3 g4 g5 g6
      by_cases hk : k < l.length
      · have hw1 : IntKind.i64.wrap ((k : Int) + 1) = ((k + 1 : Nat) : Int) := wrap_ok (by omega) (by omega)
        obtain ⟨q1, q2⟩ := hl2 _ (List.getElem_mem hk)
        rw [List.drop_eq_getElem_cons hk, applyG] at g2
        by_cases t1 : l[k].row < 0
        · have tp : poss W H l[k] = false := by simp [poss, show ¬ 0 ≤ l[k].row by omega]
          simp [tp] at g2
          simp [hk, t1]
          refine hR' _ _ ?_
          simp
          refine hR _ _ ?_
          simp [X33, g2]
        obtain ⟨y, hy⟩ : ∃ y : Nat, l[k].row = y := ⟨l[k].row.toNat, by omega⟩
        by_cases t2 : H ≤ y
        · have tp : poss W H l[k] = false := by simp [poss, hy, show ¬ y < H by omega]
          simp [tp] at g2
          simp [hk, hy, t2]
          refine hR' _ _ ?_
          simp
          refine hR _ _ ?_
          simp [X33, g2]
        have t2' : y < H := by omega
        simp [hk, hy, t2]
        refine call_of (rising_fn W l[k].up q1) ?_
        by_cases t3 : ris W l[k].up = true
        · simp [t3]
          refine call_of (rising_fn W l[k].down q2) ?_
          by_cases t4 : ris W l[k].down = true
          · have tp : poss W H l[k] = true := by simp [poss, hy, t2', t3, t4]
            rw [if_pos tp, hy, Int.toNat_natCast] at g2
            have b1 := ris_mem t3
            have b2 := ris_mem t4
            have hyU : y < U.length := by omega
            have hyD : y < D.length := by omega
            have wy1 := wid_get g5 hyU
            have wy2 := wid_get g6 hyD
            have k1 : List.take U[y].length (List.map PV.bool U[y]) = U[y].map .bool := List.take_of_length_le (by simp)
            have k2 : List.take D[y].length (List.map PV.bool D[y]) = D[y].map .bool := List.take_of_length_le (by simp)
            have k3 : (U.map UW).set y (UW (raiseR U[y] l[k].up)) = (modR U y l[k].up).map UW := by rw [← modR_set hyU, List.map_set]
            have k4 : (D.map UW).set y (UW (raiseR D[y] l[k].down)) = (modR D y l[k].down).map UW := by rw [← modR_set hyD, List.map_set]
            have m1 := raiseR_len U[y] l[k].up
            have m2 := raiseR_len D[y] l[k].down
            have n1 := modR_len U y l[k].up
            have n2 := modR_len D y l[k].down
            simp [t4, t2', g3, g4, k1]
            refine call_of (raised_fn U[y] l[k].up (by omega) q1 (fun x hx => by have := b1 x hx; omega)) ?_
            simp [t2', g3, g4, k2]
            refine call_of (raised_fn D[y] l[k].down (by omega) q2 (fun x hx => by have := b2 x hx; omega)) ?_
            have n3 : ∀ x, x ∈ (modR U y l[k].up).map UW → noRefE x = true := nr_uw _
            have n4 : ∀ x, x ∈ (modR D y l[k].down).map UW → noRefE x = true := nr_uw _
            simp [t2', g3, g4, hw1]
            rw [k3, k4]
            refine hK (k + 1, modR U y l[k].up, modR D y l[k].down) _ _ (by dsimp only; omega) ?_
            simp [g2, n1, n2, g3, g4, modR_wid g5, modR_wid g6]
            omega
          · have tp : poss W H l[k] = false := by simp [poss, hy, t2', t3, t4]
            simp [tp] at g2
            simp [t4]
            refine hR' _ _ ?_
            simp
            refine hR _ _ ?_
            simp [X33, g2]
        · have tp : poss W H l[k] = false := by simp [poss, hy, t2', t3]
          simp [tp] at g2
          simp [t3]
          refine hR' _ _ ?_
          simp
          refine hR _ _ ?_
          simp [X33, g2]
      · rw [List.drop_eq_nil_of_le (by omega), applyG] at g2
        simp [hk]
        refine hX _ _ _ ?_
        simp
        refine hR _ _ ?_
        simp [X33, g2, g3, g4]
        omega
  · rw [if_neg hs] at hA
    simp [hs]
    refine hR _ _ ?_
    simp [X33, hA]
end Go.Proofs.Ytgdcogoacnghkaa.N
