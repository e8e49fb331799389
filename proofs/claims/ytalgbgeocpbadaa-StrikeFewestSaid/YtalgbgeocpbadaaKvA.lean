/-
  Chapter 26: StrikeFewest.
-/
import Derived.Test.YtalgbgeocpbadaaKuA
import Derived.Test.YtalgbgeocpbadaaKpX
namespace Go.Proofs.Ytalgbgeocpbadaa.K
set_option linter.unusedSimpArgs false
set_option linter.unusedVariables false
set_option linter.unusedSectionVars false
open Go.Proofs.Ytalgbgeocpbadaa.Am
set_option maxHeartbeats 8000000
theorem wantG_snoc {n : Nat} : ∀ {us ds : List (List Bool)} {k : Nat} (h1 : k < us.length) (h2 : k < ds.length), wantG n (us.take (k + 1)) (ds.take (k + 1)) = wantG n (us.take k) (ds.take k) + (cnt us[k] + cnt ds[k] + n - 1) / n
  | u :: us, d :: ds, 0, _, _ => by simp [wantG]
  | u :: us, d :: ds, k + 1, h1, h2 => by
    have ih := wantG_snoc (n := n) (us := us) (ds := ds) (k := k) (by simpa using h1) (by simpa using h2)
    simp only [List.take_succ_cons, wantG, List.getElem_cons_succ] at ih ⊢
    omega
theorem Fewest_fn (a b : Int) (l : List (Int × Int)) (most : Int) (ha : 0 ≤ a ∧ a ≤ 255) (hb : 0 ≤ b ∧ b ≤ 255) (hl : ∀ p ∈ l, (0 ≤ p.1 ∧ p.1 ≤ 255) ∧ (0 ≤ p.2 ∧ p.2 ≤ 255)) (hm : 0 ≤ most ∧ most ≤ 255) :
    Am.Fn Try.prog 5 [0] [RAW a b l, .int .u8 most] (.bool true) := by
  obtain ⟨w, h, u, d, M, hM⟩ := Made_fn a b l ha hb hl
  have hv := M.valid
  obtain ⟨n, hn, n1, n2⟩ : ∃ n : Nat, IntKind.i64.wrap (1 + IntKind.i64.wrap (most.tmod 64)) = (n : Int) ∧ 1 ≤ n ∧ n ≤ 64 := by
    rw [Int.tmod_eq_emod_of_nonneg hm.1, wrap_ok (n := most % 64) (by omega) (by omega), wrap_ok (by omega) (by omega)]
    exact ⟨(1 + most % 64).toNat, by omega, by omega, by omega⟩
  have hP := Plan_fn w h n u d hv n1 n2
  have hS := plan_sks hv n1 n2
  obtain ⟨w0, w1, w2, h0, h1, h2, lu, ld, wu, wd⟩ := M
  have hC := planG_count (w := w) n1 u d 0
  have hT := planG_sum (w := w) n1 u d 0 (by omega)
  have hW := planG_pw (w := w) (n := n) u d 0
  have hE := planG_each (w := w) (h := h) n1 u d 0 (by omega) wu wd
  have hD := Dots_fn w h u d (by omega) (by omega) (fun r hr => by rw [wu r hr]; omega) (fun r hr => by rw [wd r hr]; omega)
  generalize planG w n 0 u d = P at hP hS hC hT hW hE
  have e1 := frz_uw u
  have e2 := frz_uw d
  refine fn_introX mixed (X := X5) c5 9 (by simp [X5]) fun Q hR hN => ?_
  simp [X5]
  refine call_of sanity_fn ?_
  simp
  refine call_of hM ?_
  simp [e1, e2, frz_rw, hn]
  refine call_of hP ?_
  simp
  refine loopX (fun (p : Nat × Nat) vs h' => p.1 ≤ h ∧ p.2 = wantG n (u.take p.1) (d.take p.1) ∧ p.2 ≤ p.1 * 1000 ∧ vs = [.undef, .undef, .undef, .undef, .bool true, .ptr 5 1 0, I n, .own 6 1 P.length 3 0 P.length, .undef, I p.2, I 0, I p.1, .undef, .undef, .undef, .undef, .undef, .undef, .undef, .undef, .undef, .undef, .undef, .undef] ∧
    h' = [dd, dd, dd, dd, dd, (1, .var [I w, I h, DT u, DT d]), (1, .arr 3 0 false (P.map stC)), dd, dd]) (fun p => h - p.1) (0, 0) ?_ ?_
  · simp [wantG]
  · rintro ⟨y, c⟩ vs h' ⟨g1, g2, g3, rfl, rfl⟩ Q' hK hX hR'
    dsimp only at g1 g2 g3
    by_cases hy : y < h
    · have hyu : y < u.length := by omega
      have hyd : y < d.length := by omega
      have luy := wid_get wu hyu
      have ldy := wid_get wd hyd
      simp [hy]
      refine loopX (fun (p : Nat × Nat) vs h' => p.1 ≤ w ∧ p.2 = cnt (u[y].take p.1) + cnt (d[y].take p.1) ∧ p.2 ≤ 2 * p.1 ∧ vs = [.undef, .undef, .undef, .undef, .bool true, .ptr 5 1 0, I n, .own 6 1 P.length 3 0 P.length, .undef, I c, I 0, I y, I p.2, I p.1, .undef, .undef, .undef, .undef, .undef, .undef, .undef, .undef, .undef, .undef] ∧
        h' = [dd, dd, dd, dd, dd, (1, .var [I w, I h, DT u, DT d]), (1, .arr 3 0 false (P.map stC)), dd, dd]) (fun p => w - p.1) (0, 0) ?_ ?_
      · simp [cnt]
      · rintro ⟨x, e⟩ vs h' ⟨k1, k2, k3, rfl, rfl⟩ Q2 hK2 hX2 hR2
        dsimp only at k1 k2 k3
        by_cases hx : x < w
        · have hxu : x < u[y].length := by omega
          have hxd : x < d[y].length := by omega
          have s1 := cnt_snoc hxu
          have s2 := cnt_snoc hxd
          have hw1 : IntKind.i64.wrap ((x : Int) + 1) = ((x + 1 : Nat) : Int) := wrap_ok (by omega) (by omega)
          have hw2 : IntKind.i64.wrap ((e : Int) + 1) = ((e + 1 : Nat) : Int) := wrap_ok (by omega) (by omega)
          have hw3 : IntKind.i64.wrap ((e : Int) + 1 + 1) = ((e + 2 : Nat) : Int) := by rw [wrap_ok (by omega) (by omega)]; omega
          cases b1 : u[y][x] <;> cases b2 : (d[y])[x] <;> rw [b1] at s1 <;> rw [b2] at s2 <;> simp at s1 s2
          · simp [hx, hyu, hyd, hxu, hxd, b1, b2, hw1]
            refine hK2 (x + 1, e) _ _ (by dsimp only; omega) ?_
            simp
            omega
          · simp [hx, hyu, hyd, hxu, hxd, b1, b2, hw1, hw2]
            refine hK2 (x + 1, e + 1) _ _ (by dsimp only; omega) ?_
            simp
            omega
          · simp [hx, hyu, hyd, hxu, hxd, b1, b2, hw1, hw2]
            refine hK2 (x + 1, e + 1) _ _ (by dsimp only; omega) ?_
            simp
            omega
          · simp [hx, hyu, hyd, hxu, hxd, b1, b2, hw1, hw2, hw3]
            refine hK2 (x + 1, e + 2) _ _ (by dsimp only; omega) ?_
            simp
            omega
        · obtain rfl : x = w := by omega
          rw [List.take_of_length_le (by omega), List.take_of_length_le (by omega)] at k2
          have hw1 : IntKind.i64.wrap ((y : Int) + 1) = ((y + 1 : Nat) : Int) := wrap_ok (by omega) (by omega)
          have hw4 : IntKind.i64.wrap ((e : Int) + n) = ((e + n : Nat) : Int) := wrap_ok (by omega) (by omega)
          obtain ⟨m, hm1⟩ : ∃ m : Nat, m = e + n - 1 := ⟨_, rfl⟩
          obtain ⟨q, hq1⟩ : ∃ q : Nat, q = m / n := ⟨_, rfl⟩
          have hq2 : q ≤ m := by rw [hq1]; exact Nat.div_le_self _ _
          have hq3 : (m : Int) / (n : Int) = (q : Int) := by rw [hq1]; rfl
          have hw5 : IntKind.i64.wrap ((e : Int) + n - 1) = (m : Int) := by rw [wrap_ok (by omega) (by omega)]; omega
          have hw6 : IntKind.i64.wrap ((m : Int).tdiv (n : Int)) = (q : Int) := by
            rw [Int.tdiv_eq_ediv_of_nonneg (by omega), hq3, wrap_ok (by omega) (by omega)]
          have hw8 : IntKind.i64.wrap ((m : Int) / (n : Int)) = (q : Int) := by rw [hq3, wrap_ok (by omega) (by omega)]
          have hw7 : IntKind.i64.wrap ((c : Int) + (q : Int)) = ((c + q : Nat) : Int) := wrap_ok (by omega) (by omega)
          have hn0 : ¬ n = 0 := by omega
          simp
          refine hX2 _ _ _ ?_
          have g8 : c + q ≤ (y + 1) * 1000 := by
            have : (y + 1) * 1000 = y * 1000 + 1000 := Nat.succ_mul _ _
            clear hw1 hw4 hw5 hw6 hw7
            omega
          simp [hw1, hw4, hw5, hw6, hw7, hw8, hn0]
          refine hK (y + 1, c + q) _ _ (by dsimp only; omega) ?_
          simp
          exact ⟨by omega, by rw [wantG_snoc hyu hyd, ← g2, ← k2, ← hm1, ← hq1], g8⟩
    · rw [List.take_of_length_le (by omega), List.take_of_length_le (by omega), ← hC] at g2
      subst g2
      simp [hy]
      refine hX _ _ _ ?_
      simp
      clear hK hX hR'
      refine loopX (fun (p : Nat × Nat) vs h' => p.1 ≤ P.length ∧ p.2 = ((P.map size).take p.1).sum ∧ p.2 ≤ p.1 * 64 ∧ vs = [.undef, .undef, .undef, .undef, .bool true, .ptr 5 1 0, I n, .own 6 1 P.length 3 0 P.length, .undef, I P.length, I p.2, .undef, .undef, .undef, I p.1, .undef, .undef, .undef, .undef, .undef, .undef, .undef, .undef, .undef] ∧
        h' = [dd, dd, dd, dd, dd, (1, .var [I w, I h, DT u, DT d]), (1, .arr 3 0 false (P.map stC)), dd, dd]) (fun p => P.length - p.1) (0, 0) ?_ ?_
      · simp
      · rintro ⟨i, t⟩ vs h' ⟨k1, k2, k3, rfl, rfl⟩ Q' hK hX hR'
        dsimp only at k1 k2 k3
        by_cases hi : i < P.length
        · obtain ⟨f1, f2, f3⟩ := hE _ (List.getElem_mem hi)
          obtain ⟨q1, q2⟩ := hS.2 _ (List.getElem_mem hi)
          have hsz : size P[i] = P[i].up.length + P[i].down.length := rfl
          have hw1 : IntKind.i64.wrap ((i : Int) + 1) = ((i + 1 : Nat) : Int) := wrap_ok (by omega) (by omega)
          have hw2 : IntKind.i64.wrap ((P[i].up.length : Int) + (P[i].down.length : Int)) = (size P[i] : Int) := by rw [wrap_ok (by omega) (by omega)]; omega
          have hw3 : IntKind.i64.wrap ((t : Int) + (size P[i] : Int)) = ((t + size P[i] : Nat) : Int) := wrap_ok (by omega) (by omega)
          have k4 : ((P.map size).take (i + 1)).sum = t + size P[i] := by rw [← List.map_take, take_snoc hi, List.map_append, List.sum_append, List.map_take, ← k2]; simp
          have z1 : ¬ (size P[i] : Int) < 1 := by omega
          have z2 : ¬ (n : Int) < (size P[i] : Int) := by omega
          have z3 : ¬ size P[i] = 0 := by omega
          have z4 : ¬ n < size P[i] := by omega
          simp [hi, hw2]
          refine call_of (Possible_fn w h P[i] q1 q2) ?_
          by_cases hi0 : i = 0
          · subst hi0
            have k5 : ((P.map size).take 1).sum = t + size P[0] := k4
            have hw10 : IntKind.i64.wrap 1 = 1 := wrap_ok (by omega) (by omega)
            simp [f1, z1, z2, z3, z4, hw1, hw3, hw10]
            refine hK (1, t + size P[0]) _ _ (by dsimp only; omega) ?_
            simp [k5]
            omega
          · have hi1 : i - 1 < P.length := by omega
            have hip : 0 < i := by omega
            have hw4 : IntKind.i64.wrap ((i : Int) - 1) = ((i - 1 : Nat) : Int) := by rw [wrap_ok (by omega) (by omega)]; omega
            obtain ⟨q3, q4⟩ := hS.2 _ (List.getElem_mem hi1)
            have hsz1 : size P[i - 1] = P[i - 1].up.length + P[i - 1].down.length := rfl
            have hw5 : IntKind.i64.wrap ((P[i - 1].up.length : Int) + (P[i - 1].down.length : Int)) = (size P[i - 1] : Int) := by rw [wrap_ok (by omega) (by omega)]; omega
            rcases List.pairwise_iff_getElem.1 hW (i - 1) i hi1 hi (by omega) with y1 | ⟨y1, y2⟩
            · have y3 : ¬ P[i].row < P[i - 1].row := by omega
              have y4 : ¬ P[i - 1].row = P[i].row := by omega
              simp [f1, z1, z2, z3, z4, hi, hip, hi1, hw4, y3, y4, hw1, hw3]
              refine hK (i + 1, t + size P[i]) _ _ (by dsimp only; omega) ?_
              simp [k4]
              omega
            · simp [f1, z1, z2, z3, z4, hi, hip, hi1, hw4, y1, hw5, y2, hw1, hw3]
              refine hK (i + 1, t + size P[i]) _ _ (by dsimp only; omega) ?_
              simp [k4]
              omega
        · rw [List.take_of_length_le (by rw [List.length_map]; omega)] at k2
          have ht : (t : Int) = (cntD u : Int) + (cntD d : Int) := by omega
          simp [hi]
          refine hX _ _ _ ?_
          simp [frz_rw]
          refine call_of hD ?_
          simp [ht]
          refine hR _ _ ?_
          simp [X5]
end Go.Proofs.Ytalgbgeocpbadaa.K
