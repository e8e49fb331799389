/-
  Chapter 26: StrikeJoins.
-/
import Derived.Test.YtalgbgeocpbadaaQKwA
import Derived.Test.YtalgbgeocpbadaaQKxA
import Derived.Test.YtalgbgeocpbadaaQKyX
import Derived.Test.YtalgbgeocpbadaaQKrA
namespace Go.Proofs.Ytalgbgeocpbadaa.K
set_option linter.unusedSimpArgs false
set_option linter.unusedVariables false
set_option linter.unusedSectionVars false
open Go.Proofs.Ytalgbgeocpbadaa.Am
set_option maxHeartbeats 8000000
theorem applyO_all {w h : Nat} {u d : List (List Bool)} (M : Mad w h u d) {l : List Stk} (hp : ∀ s ∈ l, poss w h s = true) : applyO w h l = ⟨w, h, upG (blankD w h) l, dnG (blankD w h) l, (l.length : Nat), 0⟩ := by
  have hs : sizeB w h = true := by
    have hv := M.valid
    simp only [validB, Bool.and_eq_true] at hv
    exact hv.1.1
  unfold applyO
  rw [if_pos hs, Int.toNat_natCast, Int.toNat_natCast, applyG_all _ _ _ _ hp, Nat.zero_add]
theorem frz2_stU (P : List Stk) : List.map (frzE ∘ frzE ∘ stU) P = P.map stC := List.map_congr_left fun r _ => rfl
theorem frz1_stU (P : List Stk) : List.map (frzE ∘ stU) P = P.map stC := List.map_congr_left fun r _ => rfl
theorem frz1_stC (P : List Stk) : List.map (frzE ∘ stC) P = P.map stC := List.map_congr_left fun r _ => rfl
theorem tk_stC (P : List Stk) : List.take P.length (P.map stC) = P.map stC := List.take_of_length_le (by simp)
theorem frz1_rw (B : List (List Bool)) : List.map (frzE ∘ RW) B = B.map RW := List.map_congr_left fun r _ => rfl
theorem tk_both (A B : List Stk) : List.take (A.length + B.length) (A.map stC ++ B.map stC) = A.map stC ++ B.map stC := List.take_of_length_le (by simp)
theorem nr_stC (p : List Stk) : ∀ x, x ∈ p.map stC → noRefE x = true := fun x hx => by
  obtain ⟨s, _, rfl⟩ := List.mem_map.1 hx; rfl
theorem nr_both (A B : List Stk) : (∀ x, x ∈ A.map stC ++ B.map stC → noRefE x = true) = True := eq_true fun x hx => (List.mem_append.1 hx).elim (nr_stC A x) (nr_stC B x)
theorem Joins_fn (a b : Int) (raw : List (Int × Int)) (l m : List RSt) (ha : 0 ≤ a ∧ a ≤ 255) (hb : 0 ≤ b ∧ b ≤ 255) (hl : ∀ x ∈ l, rsOk x) (hm : ∀ x ∈ m, rsOk x) :
    Am.Fn Try.prog 7 [0] [RAW a b raw, .slc (l.map RS), .slc (m.map RS)] (.bool true) := by
  obtain ⟨w, h, u, d, M, hM⟩ := Made_fn a b [] ha hb (by simp)
  have hv := M.valid
  have M' := M
  obtain ⟨w0, w1, w2, h0, h1, h2, lu, ld, wu, wd⟩ := M
  have hA := strikes_fn l w h hl (by omega) (by omega)
  have hB := strikes_fn m w h hm (by omega) (by omega)
  have pA := skF_poss (w := w) (h := h) (l := l.take 6) (by omega)
  have pB := skF_poss (w := w) (h := h) (l := m.take 6) (by omega)
  have sA := skF_sks (w := w) (h := h) (l := l.take 6) (by simp; omega)
  have sB := skF_sks (w := w) (h := h) (l := m.take 6) (by simp; omega)
  have nA : (skF w h (l.take 6)).length ≤ 6 := Nat.le_trans (skF_len _ _ _) (by simp; omega)
  have nB : (skF w h (m.take 6)).length ≤ 6 := Nat.le_trans (skF_len _ _ _) (by simp; omega)
  generalize skF w h (l.take 6) = A at hA pA sA nA
  generalize skF w h (m.take 6) = B at hB pB sB nB
  have pAB : ∀ s ∈ A ++ B, poss w h s = true := fun s hs => (List.mem_append.1 hs).elim (pA s) (pB s)
  have pBA : ∀ s ∈ B ++ A, poss w h s = true := fun s hs => (List.mem_append.1 hs).elim (pB s) (pA s)
  have sAB : Sks (A ++ B) := ⟨by simp; omega, fun s hs => (List.mem_append.1 hs).elim (sA.2 s) (sB.2 s)⟩
  have sBA : Sks (B ++ A) := ⟨by simp; omega, fun s hs => (List.mem_append.1 hs).elim (sB.2 s) (sA.2 s)⟩
  have f1 := apply_fn w h A sA
  have f2 := apply_fn w h B sB
  have f3 := apply_fn w h _ sAB
  have f4 := apply_fn w h _ sBA
  rw [applyO_all M' pA] at f1
  rw [applyO_all M' pB] at f2
  rw [applyO_all M' pAB, upG_both, dnG_both] at f3
  rw [applyO_all M' pBA, upG_both, dnG_both, orD_comm, orD_comm (dnG _ B)] at f4
  have lb := blank_len w h
  have wb := wid_blank w h
  have l1 : (upG (blankD w h) A).length = h := (upG_len _ _).trans lb
  have l2 : (dnG (blankD w h) A).length = h := (dnG_len _ _).trans lb
  have l3 : (upG (blankD w h) B).length = h := (upG_len _ _).trans lb
  have l4 : (dnG (blankD w h) B).length = h := (dnG_len _ _).trans lb
  have k1 : Wid w (upG (blankD w h) A) := upG_wid A wb
  have k2 : Wid w (dnG (blankD w h) A) := dnG_wid A wb
  have k3 : Wid w (upG (blankD w h) B) := upG_wid B wb
  have k4 : Wid w (dnG (blankD w h) B) := dnG_wid B wb
  generalize upG (blankD w h) A = U1 at f1 f3 f4 l1 k1
  generalize dnG (blankD w h) A = D1 at f1 f3 f4 l2 k2
  generalize upG (blankD w h) B = U2 at f2 f3 f4 l3 k3
  generalize dnG (blankD w h) B = D2 at f2 f3 f4 l4 k4
  rw [List.map_append] at f3 f4
  have q1 : A.length * 56 ≤ 140737488355328 := by omega
  have q2 : B.length * 56 ≤ 140737488355328 := by omega
  have q3 : (A.length + B.length) * 56 ≤ 140737488355328 := by omega
  have q4 : (B.length + A.length) * 56 ≤ 140737488355328 := by omega
  have hV1 := RValid_fn w h U1 D1 (by omega) (by omega) (by omega) (by omega)
  have hV2 := RValid_fn w h U2 D2 (by omega) (by omega) (by omega) (by omega)
  have ok1 : validB w h U1 D1 = true := Mad.valid ⟨w0, w1, w2, h0, h1, h2, l1, l2, k1, k2⟩
  have ok2 : validB w h U2 D2 = true := Mad.valid ⟨w0, w1, w2, h0, h1, h2, l3, l4, k3, k4⟩
  rw [ok1] at hV1
  rw [ok2] at hV2
  refine fn_introX mixed (X := X7) c7 36 (by simp [X7]) fun Q hR hN => ?_
  have e1 := frz_uw u
  have e2 := frz_uw d
  simp [X7]
  refine call_of sanity_fn ?_
  simp
  refine call_of hM ?_
  simp [e1, e2, frz_rw]
  refine call_of hA ?_
  simp
  refine call_of hB ?_
  simp [frz2_stU, frz1_stU, frz1_stC, tk_stC]
  refine call_of f1 ?_
  simp [frz2_stU, frz1_stU, frz1_stC, tk_stC]
  refine call_of f2 ?_
  simp [l1, l2, l3, l4, frz2_stU, frz1_stU, frz1_stC, tk_stC, frz_uw, frz1_rw, q1, q2, q3, q4, tk_both, ↓nr_both]
  refine call_of f3 ?_
  simp [frz1_stC, tk_stC, tk_both, q1, q2, q3, q4, ↓nr_both]
  refine call_of f4 ?_
  simp [frz_uw, frz1_rw]
  refine call_of hV1 ?_
  simp
  refine call_of hV2 ?_
  simp
  refine call_of (Blank_fn w h (by omega) (by omega)) ?_
  have lU : (orD U1 U2).length = h := by rw [orD_len (by omega), l3]
  have lD : (orD D1 D2).length = h := by rw [orD_len (by omega), l4]
  have wU : Wid w (orD U1 U2) := orD_wid (by omega) k1 k3
  have wD : Wid w (orD D1 D2) := orD_wid (by omega) k2 k4
  have gU : ∀ y x (h1 : y < U1.length) (h2 : y < U2.length) (h3 : y < (orD U1 U2).length) (h4 : x < U1[y].length) (h5 : x < U2[y].length), ((orD U1 U2)[y])[x]? = some (U1[y][x] || U2[y][x]) := fun y x h1 h2 h3 h4 h5 => by
    rw [orD_get h1 h2, List.getElem?_eq_getElem (by simp [orR]; omega)]; simp [orR]
  have gD : ∀ y x (h1 : y < D1.length) (h2 : y < D2.length) (h3 : y < (orD D1 D2).length) (h4 : x < D1[y].length) (h5 : x < D2[y].length), ((orD D1 D2)[y])[x]? = some (D1[y][x] || D2[y][x]) := fun y x h1 h2 h3 h4 h5 => by
    rw [orD_get h1 h2, List.getElem?_eq_getElem (by simp [orR]; omega)]; simp [orR]
  have c0 := Cpy.start (orD U1 U2) w
  have d0 := Cpy.start (orD D1 D2) w
  rw [lU] at c0; rw [lD] at d0
  generalize orD U1 U2 = UU at lU wU gU c0
  generalize orD D1 D2 = DD at lD wD gD d0
  generalize blankD w h = B0 at lb wb c0 d0
  simp [lb]
  refine loopX (fun (p : Nat × List (List Bool) × List (List Bool)) vs h' => p.1 ≤ h ∧ Cpy UU w p.1 0 p.2.1 ∧ Cpy DD w p.1 0 p.2.2 ∧ vs = [.undef, .undef, .undef, .undef, .undef, .bool true, .ptr 27 1 0, .undef, .undef, .ptr 28 1 0, .ptr 29 1 0, .ptr 30 1 0, .ptr 31 1 0, .ptr 32 1 0, I p.1, .undef, .undef, .undef, .undef] ∧
    h' = [dd, dd, dd, dd, dd, dd, dd, dd, dd, dd, dd, dd, dd, dd, dd, dd, dd, dd, dd, dd, dd, dd, dd, dd, dd, dd, dd, (1, .var [I w, I h, DT u, DT d]), (1, .var [I w, I h, DT U1, DT D1, I A.length, I 0]), (1, .var [I w, I h, DT U2, DT D2, I B.length, I 0]), (1, .var [I w, I h, DT UU, DT DD, I ((A.length : Int) + B.length), I 0]), (1, .var [I w, I h, DT UU, DT DD, I ((B.length : Int) + A.length), I 0]), (1, .var [I w, I h, .own 33 1 h 1 0 h, .own 34 1 h 1 0 h]), (1, .arr 1 0 false (p.2.1.map UW)), (1, .arr 1 0 false (p.2.2.map UW)), dd]) (fun p => h - p.1) (0, B0, B0) ?_ ?_
  · simp [c0, d0]
  · rintro ⟨y, U, V⟩ vs h' ⟨g1, g2, g3, rfl, rfl⟩ Q' hK hX hR'
    dsimp only at g1 g2 g3
    by_cases hy : y < h
    · simp [hy]
      refine loopX (fun (p : Nat × List (List Bool) × List (List Bool)) vs h' => p.1 ≤ w ∧ Cpy UU w y p.1 p.2.1 ∧ Cpy DD w y p.1 p.2.2 ∧ vs = [.undef, .undef, .undef, .undef, .undef, .bool true, .ptr 27 1 0, .undef, .undef, .ptr 28 1 0, .ptr 29 1 0, .ptr 30 1 0, .ptr 31 1 0, .ptr 32 1 0, I y, I p.1, .undef, .undef, .undef] ∧
        h' = [dd, dd, dd, dd, dd, dd, dd, dd, dd, dd, dd, dd, dd, dd, dd, dd, dd, dd, dd, dd, dd, dd, dd, dd, dd, dd, dd, (1, .var [I w, I h, DT u, DT d]), (1, .var [I w, I h, DT U1, DT D1, I A.length, I 0]), (1, .var [I w, I h, DT U2, DT D2, I B.length, I 0]), (1, .var [I w, I h, DT UU, DT DD, I ((A.length : Int) + B.length), I 0]), (1, .var [I w, I h, DT UU, DT DD, I ((B.length : Int) + A.length), I 0]), (1, .var [I w, I h, .own 33 1 h 1 0 h, .own 34 1 h 1 0 h]), (1, .arr 1 0 false (p.2.1.map UW)), (1, .arr 1 0 false (p.2.2.map UW)), dd]) (fun p => w - p.1) (0, U, V) ?_ ?_
      · simp [g2, g3]
      · rintro ⟨x, U', V'⟩ vs h' ⟨g1, g2, g3, rfl, rfl⟩ Q2 hK2 hX2 hR2
        dsimp only at g1 g2 g3
        have l5 : U'.length = h := by rw [g2.len, lU]
        have l6 : V'.length = h := by rw [g3.len, lD]
        have hyU : y < U'.length := by omega
        have hyV : y < V'.length := by omega
        have y1 : y < U1.length := by omega
        have y2 : y < U2.length := by omega
        have y3 : y < D1.length := by omega
        have y4 : y < D2.length := by omega
        have yU : y < UU.length := by omega
        have yD : y < DD.length := by omega
        have w5 := wid_get g2.wid hyU
        have w6 := wid_get g3.wid hyV
        have v1 := wid_get k1 y1
        have v2 := wid_get k3 y2
        have v3 := wid_get k2 y3
        have v4 := wid_get k4 y4
        by_cases hx : x < w
        · have hw2 : IntKind.i64.wrap ((x : Int) + 1) = ((x + 1 : Nat) : Int) := wrap_ok (by omega) (by omega)
          have x1 : x < U1[y].length := by omega
          have x2 : x < U2[y].length := by omega
          have x3 : x < D1[y].length := by omega
          have x4 : x < D2[y].length := by omega
          have s1 := g2.step wU yU hx (hkU := hyU) (gU y x y1 y2 yU x1 x2)
          have s2 := g3.step wD yD hx (hkU := hyV) (gD y x y3 y4 yD x3 x4)
          cases b1 : U1[y][x] <;> cases b3 : D1[y][x] <;> rw [b1] at s1 <;> rw [b3] at s2 <;> simp only [Bool.false_or, Bool.true_or] at s1 s2 <;>
            (simp [hy, hx, l1, l2, l3, l4, l5, l6, w5, w6, v1, v2, v3, v4, y1, y2, y3, y4, x1, x2, x3, x4, b1, b3, hw2]
             rw [uw_set, uw_set]
             generalize U'.set y _ = U3 at s1
             generalize V'.set y _ = V3 at s2
             have l7 : U3.length = h := by rw [s1.len, lU]
             have l8 : V3.length = h := by rw [s2.len, lD]
             refine hK2 (x + 1, U3, V3) _ _ (by dsimp only; omega) ?_
             simp [s1, s2]
             omega)
        · obtain rfl : x = w := by omega
          have hw1 : IntKind.i64.wrap ((y : Int) + 1) = ((y + 1 : Nat) : Int) := wrap_ok (by omega) (by omega)
          simp
          refine hX2 _ _ _ ?_
          simp [hw1]
          refine hK (y + 1, U', V') _ _ (by dsimp only; omega) ?_
          simp
          exact ⟨by omega, g2.row wU yU, g3.row wD yD⟩
    · obtain rfl : y = h := by omega
      have e1 := g2.done' lU
      have e2 := g3.done' lD
      subst e1; subst e2
      simp
      refine hX _ _ _ ?_
      have fU := frz_take U
      have fV := frz_take V
      rw [lU] at fU
      rw [lD] at fV
      have r1 : Rws U := ⟨by omega, fun r hr => by rw [wU r hr]; omega⟩
      have r2 : Rws V := ⟨by omega, fun r hr => by rw [wD r hr]; omega⟩
      have hS := SamePlate_fn w y w y U V U V r1 r2
      rw [decide_eq_true ⟨rfl, rfl, rfl, rfl⟩] at hS
      simp [fU, fV, lU, lD]
      refine call_of hS ?_
      simp [fU, fV, lU, lD]
      refine call_of hS ?_
      simp
      refine hR _ _ ?_
      simp [X7]
end Go.Proofs.Ytalgbgeocpbadaa.K
