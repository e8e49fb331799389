/-
  Chapter 26: strikes performed by the reference; apply.
-/
import Derived.Test.YtalgbgeocpbadaaQKkA
namespace Go.Proofs.Ytalgbgeocpbadaa.K
set_option linter.unusedSimpArgs false
set_option linter.unusedVariables false
set_option linter.unusedSectionVars false
open Go.Proofs.Ytalgbgeocpbadaa.Am
set_option maxHeartbeats 4000000
theorem RApply_fn (w h : Int) (l : List Stk) (hl : Sks l) : Am.Fn Try.prog 20 [0, 0, 1, 1, 0, 0] [I w, I h, .slc (l.map stC)] (outU (applyO w h l)) := by
  obtain ⟨hl1, hl2⟩ := hl
  refine fn_introX mixed (X := X20) c20 12 (by simp [X20]) fun Q hR hN => ?_
  by_cases w1 : w < 0
  · have hs : sizeB w h = false := Bool.eq_false_iff.2 fun e => by have := size_spec e; omega
    simp [X20, w1]
    refine hR _ _ ?_
    simp [X20, applyO, hs]
  by_cases h1 : h < 0
  · have hs : sizeB w h = false := Bool.eq_false_iff.2 fun e => by have := size_spec e; omega
    simp [X20, w1, h1]
    refine hR _ _ ?_
    simp [X20, applyO, hs]
  by_cases w2 : 200 < w
  · have hs : sizeB w h = false := Bool.eq_false_iff.2 fun e => by have := size_spec e; omega
    simp [X20, w1, w2, h1]
    refine hR _ _ ?_
    simp [X20, applyO, hs]
  by_cases h2 : 200 < h
  · have hs : sizeB w h = false := Bool.eq_false_iff.2 fun e => by have := size_spec e; omega
    simp [X20, w1, w2, h1, h2]
    refine hR _ _ ?_
    simp [X20, applyO, hs]
  obtain ⟨W, rfl⟩ : ∃ W : Nat, w = W := ⟨w.toNat, by omega⟩
  obtain ⟨H, rfl⟩ : ∃ H : Nat, h = H := ⟨h.toNat, by omega⟩
  have hB := Blank_fn W H (by omega) (by omega)
  have lB := blank_len W H
  have wB := wid_blank W H
  have hV := RValid_fn W H (blankD W H) (blankD W H) (by omega) (by omega) (by omega) (by omega)
  rw [validB_blank] at hV
  have hA : applyO W H l = if sizeB W H then applyG W H 0 (blankD W H) (blankD W H) l else ⟨0, 0, [], [], 0, 1⟩ := rfl
  generalize blankD W H = B at hB lB wB hV hA
  simp [X20, w1, w2, h1, h2]
  refine call_of hB ?_
  simp [frz_take]
  refine call_of hV ?_
  by_cases hs : sizeB W H = true
  · rw [if_pos hs] at hA
    simp [hs]
    refine loopX (fun (p : Nat × List (List Bool) × List (List Bool)) vs h' => p.1 ≤ l.length ∧ applyO W H l = applyG W H p.1 p.2.1 p.2.2 (l.drop p.1) ∧ p.2.1.length = H ∧ p.2.2.length = H ∧ Wid W p.2.1 ∧ Wid W p.2.2 ∧ vs = [I W, I H, .slc (l.map stC), .ptr 6 1 0, .ptr 7 1 0, .undef, I p.1, .undef, .undef, .undef, .undef] ∧
      h' = [dd, dd, dd, dd, dd, dd, (1, .var [I 0, I 0, .nils, .nils, I 0, I 0]), (1, .var [I W, I H, .own 8 1 H 1 0 H, .own 9 1 H 1 0 H]), (1, .arr 1 0 false (p.2.1.map UW)), (1, .arr 1 0 false (p.2.2.map UW)), dd, dd]) (fun p => l.length - p.1) (0, B, B) ?_ ?_
    · simp [hA, lB, wB]
    · rintro ⟨k, U, D⟩ vs h' ⟨g1, g2, g3, g4, g5, g6, rfl, rfl⟩ Q' hK hX hR'
      dsimp only at g1 g2 g3 g4 g5 g6
      by_cases hk : k < l.length
      · have hw1 : IntKind.i64.wrap ((k : Int) + 1) = ((k + 1 : Nat) : Int) := wrap_ok (by omega) (by omega)
        obtain ⟨q1, q2⟩ := hl2 _ (List.getElem_mem hk)
        rw [List.drop_eq_getElem_cons hk, applyG] at g2
        simp [hk]
        refine call_of (Possible_fn W H l[k] q1 q2) ?_
        by_cases tp : poss W H l[k] = true
        · rw [if_pos tp] at g2
          have tp' := tp
          simp [poss] at tp'
          obtain ⟨⟨⟨t1, t2⟩, t3⟩, t4⟩ := tp'
          obtain ⟨y, hy⟩ : ∃ y : Nat, l[k].row = y := ⟨l[k].row.toNat, by omega⟩
          rw [hy, Int.toNat_natCast] at g2
          have ft1 : List.take H (List.map (frzE ∘ UW) U) = U.map RW := by rw [← g3]; exact frz_take U
          have ft2 : List.take H (List.map (frzE ∘ UW) D) = D.map RW := by rw [← g4]; exact frz_take D
          have n1 := modR_len U y l[k].up
          have n2 := modR_len D y l[k].down
          simp [tp, hk, g3, g4, ft1, ft2, hy]
          refine call_of (Raise_fn W H U D y l[k].up l[k].down (by omega) (by omega) g3 g4 g5 g6 (by omega) q1 q2 (ris_mem t3) (ris_mem t4)) ?_
          simp [n1, n2, g3, g4, hw1]
          refine hK (k + 1, modR U y l[k].up, modR D y l[k].down) _ _ (by dsimp only; omega) ?_
          simp [g2, n1, n2, g3, g4, modR_wid g5, modR_wid g6]
          omega
        · have tp : poss W H l[k] = false := by simpa using tp
          simp [tp] at g2
          simp [tp]
          refine hR' _ _ ?_
          simp
          refine hR _ _ ?_
          simp [X20, g2]
      · rw [List.drop_eq_nil_of_le (by omega), applyG] at g2
        simp [hk]
        refine hX _ _ _ ?_
        simp
        refine hR _ _ ?_
        simp [X20, g2, g3, g4]
        omega
  · rw [if_neg hs] at hA
    simp [hs]
    refine hR _ _ ?_
    simp [X20, hA]
theorem apply_fn (w h : Int) (l : List Stk) (hl : Sks l) : Am.Fn Try.prog 16 [0, 0, 1, 1, 0, 0] [I w, I h, .slc (l.map stC)] (outU (applyO w h l)) := by
  have hA := Apply_fn w h l hl
  refine fn_introX mixed (X := X16) c16 6 (by simp [X16]) fun Q hR hN => ?_
  simp [X16]
  refine call_of hA ?_
  simp
  refine hR _ _ ?_
  simp [X16]
end Go.Proofs.Ytalgbgeocpbadaa.K
