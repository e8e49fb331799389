/-
  Chapter 27: a sheet is made by the reference.
-/
import Derived.Test.YtgdcogoacnghkaaQOaA
namespace Go.Proofs.Ytgdcogoacnghkaa.N
set_option linter.unusedSimpArgs false
set_option linter.unusedVariables false
set_option linter.unusedSectionVars false
open Go.Proofs.Ytgdcogoacnghkaa.Am
set_option maxHeartbeats 4000000
@[simp ↓] theorem nr_mem_stU (l : List Stk) : (∀ x, x ∈ List.map stU l → noRefE x = true) = True := eq_true (nr_stU l)
@[simp] theorem nr_all_stU (l : List Stk) : (List.map stU l).all noRefE = true := List.all_eq_true.2 (nr_stU l)
theorem frz_stU1 (l : List Stk) : List.map (frzE ∘ stU) l = l.map stC := List.map_congr_left fun r _ => by
  simp only [Function.comp, stU, stC, frzE, List.map, frzC, List.map_map]
theorem alive_mem {pin x : Int} {w l : List Int} (h : x ∈ alive pin w l) : x ∈ l := (List.mem_filter.1 h).1
theorem at_cons {t : Tr} {l : List Tr} {x : Int} : at' (t :: l) x = if t.pl = x then t :: at' l x else at' l x := by
  unfold at'; rw [List.filter_cons]; simp only [decide_eq_true_eq]
abbrev JB (u d : List (List Bool)) (n : Int) (worn : List Int) : PV := .agg [I 48, I 12, DT u, DT d, I n, IL worn]
theorem RMake_fn (u d : List (List Bool)) (n : Nat) (worn : List Int) (l : List Tr) (P : List Stk) (m : Mad u d) (hn : 1 ≤ n) (hn2 : n ≤ 64) (hP : P = planG 48 n 0 u d) (hP2 : Plan48 P) (hw : worn.length ≤ 10) (hl : l.length ≤ 10) :
    Am.Fn Try.prog 15 [0, 0, 1, 1, 0, 0, 1, 0] [JB u d n worn, TRS l] (.tup [OU (outG (makeG u d n worn l)), I 0]) := by
  have hPl := RPlan_fn 48 12 n u d m.valid hn hn2
  have hBl := RBlank_fn 48 12 (by omega) (by omega)
  rw [← hP] at hPl
  have lB := blank_len 48 12
  have wB := wid_blank 48 12
  obtain ⟨R, hRR⟩ : ∃ R, makeG u d n worn l = R := ⟨_, rfl⟩
  rw [hRR]
  unfold makeG startG at hRR
  rw [← hP] at hRR
  have e96 : IntKind.i64.wrap 96 = 96 := wrap_ok (by omega) (by omega)
  obtain ⟨B, hB⟩ : ∃ B, blankD 48 12 = B := ⟨_, rfl⟩
  rw [hB] at hBl hRR lB wB
  clear hB
  have hcw : worn.length * 8 ≤ 140737488355328 := by omega
  have hcw2 : (0 + worn.length) * 8 ≤ 140737488355328 := by omega
  refine fn_introX mixed (X := X15) c15 20 (by simp [X15]) fun Q hR hN => ?_
  simp [X15]
  refine call_of hPl ?_
  simp [frz_stU1]
  refine call_of hBl ?_
  simp [lB, hcw, hcw2]
  refine loopX (fun (p : Nat × Em) vs h => p.1 ≤ P.length ∧ runG l p.1 (P.drop p.1) p.2 = R ∧ p.2.stopped = false ∧ p.2.strikes ≤ p.1 ∧ p.2.slip ≤ 10 * p.1 ∧ p.2.worn.length ≤ 10 + 10 * p.1 ∧ (p.2.u.length = 12 ∧ p.2.d.length = 12 ∧ Wid 48 p.2.u ∧ Wid 48 p.2.d) ∧
    vs = [.undef, TRS l, .ptr 13 1 0, .ptr 14 1 0, .undef, .own 15 1 P.length 3 0 P.length, .undef, .ptr 16 1 0, I p.2.slip, I p.1, .undef, .undef, .undef, .undef, .undef, .undef, .undef, .undef, .undef, .undef, .undef] ∧
    h = [dd, dd, dd, dd, dd, dd, dd, dd, dd, dd, dd, dd, dd, (1, .var [I 48, I 12, DT u, DT d, I n, IL worn]), (1, .var [I 0, I 0, .nils, .nils, I 0, .bool false, .nils]), (1, .arr 3 0 false (P.map stC)), (1, .var [I 48, I 12, .own 17 1 12 1 0 12, .own 18 1 12 1 0 12, I p.2.strikes, .bool false, .own 19 1 p.2.worn.length 1 0 p.2.worn.length]), dRow p.2.u, dRow p.2.d, wRow p.2.worn]) (fun p => P.length - p.1) (0, ⟨B, B, 0, 0, worn, false⟩) ?_ ?_
  · simp [hRR, lB, wB]
    omega
  · rintro ⟨i, ⟨u1, d1, n1, a1, w1, b1⟩⟩ vs h ⟨g1, g2, g3, g4, g5, g6, ⟨lu1, ld1, wu1, wd1⟩, rfl, rfl⟩ Q' hK hX hR'
    dsimp only at g1 g2 g3 g4 g5 g6 lu1 ld1 wu1 wd1
    subst g3
    have hPl2 := hP2.len
    by_cases hi : i < P.length
    · have hw1 : IntKind.i64.wrap ((i : Int) + 1) = ((i + 1 : Nat) : Int) := wrap_ok (by omega) (by omega)
      have hSk := hP2.ok _ (List.getElem_mem hi)
      have htl := at_len l (i : Int)
      rw [at_trAt] at htl
      have hsl := suf_len (trAt l i) a1 w1
      rw [List.drop_eq_getElem_cons hi, runG] at g2
      obtain ⟨⟨b2, a2, w2⟩, hRes⟩ : ∃ Res, suf (trAt l i) a1 w1 = Res := ⟨_, rfl⟩
      simp only [sufG, hRes] at g2
      rw [hRes] at hsl
      dsimp only at hsl
      simp [hi]
      refine loopX (fun (p : Nat × Nat × List Int) vs h => p.1 ≤ l.length ∧ suf (at' (l.drop p.1) i) p.2.1 p.2.2 = (b2, a2, w2) ∧ p.2.1 ≤ a1 + p.1 ∧ p.2.2.length ≤ w1.length + p.1 ∧ vs = [.undef, TRS l, .ptr 13 1 0, .ptr 14 1 0, .undef, .own 15 1 P.length 3 0 P.length, .undef, .ptr 16 1 0, I p.2.1, I i, I p.1, .undef, .undef, .undef, .undef, .undef, .undef, .undef, .undef, .undef, .undef] ∧
        h = [dd, dd, dd, dd, dd, dd, dd, dd, dd, dd, dd, dd, dd, (1, .var [I 48, I 12, DT u, DT d, I n, IL worn]), (1, .var [I 0, I 0, .nils, .nils, I 0, .bool false, .nils]), (1, .arr 3 0 false (P.map stC)), (1, .var [I 48, I 12, .own 17 1 12 1 0 12, .own 18 1 12 1 0 12, I n1, .bool false, .own 19 1 p.2.2.length 1 0 p.2.2.length]), dRow u1, dRow d1, wRow p.2.2]) (fun p => l.length - p.1) (0, a1, w1) ?_ ?_
      · simp [at_trAt, hRes]
      · rintro ⟨k, a, w⟩ vs h ⟨f1, f2, f3, f4, rfl, rfl⟩ Q2 hK2 hX2 hR2
        dsimp only at f1 f2 f3 f4
        by_cases hk : k < l.length
        · have hw2 : IntKind.i64.wrap ((k : Int) + 1) = ((k + 1 : Nat) : Int) := wrap_ok (by omega) (by omega)
          have hw3 : IntKind.i64.wrap ((a : Int) + 1) = ((a + 1 : Nat) : Int) := wrap_ok (by omega) (by omega)
          rw [List.drop_eq_getElem_cons hk, at_cons] at f2
          by_cases hp : l[k].pl = (i : Int)
          · rw [if_pos hp, suf] at f2
            by_cases t1 : l[k].kind = 1 ∨ l[k].kind = 4
            · rw [if_pos t1] at f2
              simp only [Prod.mk.injEq] at f2
              obtain ⟨rfl, rfl, rfl⟩ := f2
              simp only [if_true] at g2
              subst g2
              rcases t1 with t1 | t1
              · simp [hk, hp, t1]
                refine hR2 _ _ ?_
                simp
                refine hR' _ _ ?_
                simp
                refine hR _ _ ?_
                simp [X15, outG, lu1, ld1]
              · simp [hk, hp, t1]
                refine hR2 _ _ ?_
                simp
                refine hR' _ _ ?_
                simp
                refine hR _ _ ?_
                simp [X15, outG, lu1, ld1]
            · rw [if_neg t1] at f2
              have u1' : ¬ l[k].kind = 1 := fun e => t1 (.inl e)
              have u4 : ¬ l[k].kind = 4 := fun e => t1 (.inr e)
              by_cases t2 : l[k].kind = 2
              · rw [if_pos t2] at f2
                simp [hk, hp, t2, hw2, hw3]
                refine hK2 (k + 1, a + 1, w) _ _ (by dsimp only; omega) ?_
                simp [f2]
                omega
              rw [if_neg t2] at f2
              by_cases t3 : l[k].kind = 3
              case neg =>
                rw [if_neg t3] at f2
                simp [hk, hp, u1', u4, t2, t3, hw2]
                refine hK2 (k + 1, a, w) _ _ (by dsimp only; omega) ?_
                simp [f2]
                omega
              rw [if_pos t3] at f2
              by_cases q1 : 0 ≤ l[k].n
              case neg =>
                rw [show wear l[k].n w = w from if_neg (by omega)] at f2
                simp [hk, hp, t3, q1, hw2]
                refine hK2 (k + 1, a, w) _ _ (by dsimp only; omega) ?_
                simp [f2]
                omega
              by_cases q2 : l[k].n < 96
              case neg =>
                rw [show wear l[k].n w = w from if_neg (by omega)] at f2
                simp [hk, hp, t3, q1, q2, e96, hw2]
                refine hK2 (k + 1, a, w) _ _ (by dsimp only; omega) ?_
                simp [f2]
                omega
              have hH := Has_fn w l[k].n (by omega)
              by_cases q3 : l[k].n ∈ w
              · rw [show wear l[k].n w = w from if_neg (by simp [q3])] at f2
                simp [hk, hp, t3, q1, q2, e96]
                refine call_of hH ?_
                simp [q3, hw2]
                refine hK2 (k + 1, a, w) _ _ (by dsimp only; omega) ?_
                simp [f2]
                omega
              · rw [show wear l[k].n w = w ++ [l[k].n] from if_pos ⟨q1, q2, q3⟩] at f2
                have hc : (w.length + 1) * 8 ≤ 140737488355328 := by omega
                simp [hk, hp, t3, q1, q2, e96]
                refine call_of hH ?_
                simp [q3, hk, hw2, hc]
                refine hK2 (k + 1, a, w ++ [l[k].n]) _ _ (by dsimp only; omega) ?_
                simp [f2]
                omega
          · rw [if_neg hp] at f2
            simp [hk, hp, hw2]
            refine hK2 (k + 1, a, w) _ _ (by dsimp only; omega) ?_
            simp [f2]
            omega
        · obtain rfl : k = l.length := by omega
          rw [List.drop_eq_nil_of_le (by omega)] at f2
          simp only [at', List.filter_nil, suf, Prod.mk.injEq] at f2
          obtain ⟨rfl, rfl, rfl⟩ := f2
          simp only [Bool.false_eq_true, if_false] at g2
          simp
          refine hX2 _ _ _ ?_
          have hrow := hSk.row
          have hw4 : IntKind.i64.wrap (P[i].row + (a : Int)) = P[i].row + (a : Int) := wrap_ok (by omega) (by omega)
          have hw5 : IntKind.i64.wrap ((n1 : Int) + 1) = ((n1 + 1 : Nat) : Int) := wrap_ok (by omega) (by omega)
          have hS := struckP_fn 48 12 u1 d1 ⟨P[i].row + (a : Int), P[i].up, P[i].down⟩ w (by omega) (by omega) lu1 ld1 wu1 wd1 (by have := hSk.lu; dsimp only; omega) (by have := hSk.ld; dsimp only; omega) (fun x hx => by have := hSk.bu x hx; omega) (fun x hx => by have := hSk.bd x hx; omega) (by omega)
          dsimp only at hS
          unfold dotsG at hS
          rw [plotD_hit (fun x hx => hSk.bu x (alive_mem hx)), plotD_hit (fun x hx => hSk.bd x (alive_mem hx))] at hS
          have fu : List.take 12 (List.map (frzE ∘ UW) u1) = u1.map RW := by rw [← lu1]; exact frz_take u1
          have fd : List.take 12 (List.map (frzE ∘ UW) d1) = d1.map RW := by rw [← ld1]; exact frz_take d1
          simp [hi, hw4, lu1, ld1, fu, fd]
          refine call_of hS ?_
          simp [hitR_len, lu1, ld1, hw5, hw1]
          refine hK (i + 1, strikeG ⟨u1, d1, n1, a, w, false⟩ P[i]) _ _ (by dsimp only; omega) ?_
          have c1 : (strikeG ⟨u1, d1, n1, a, w, false⟩ P[i]).u.length = 12 := by simp [strikeG, hitR_len, lu1]
          have c2 : (strikeG ⟨u1, d1, n1, a, w, false⟩ P[i]).d.length = 12 := by simp [strikeG, hitR_len, ld1]
          have c3 : Wid 48 (strikeG ⟨u1, d1, n1, a, w, false⟩ P[i]).u := hitR_wid wu1
          have c4 : Wid 48 (strikeG ⟨u1, d1, n1, a, w, false⟩ P[i]).d := hitR_wid wd1
          simp only [g2, c1, c2, c3, c4]
          simp [strikeG]
          omega
    · obtain rfl : i = P.length := by omega
      rw [List.drop_eq_nil_of_le (by omega), runG] at g2
      subst g2
      simp
      refine hX _ _ _ ?_
      simp
      refine hR _ _ ?_
      simp [X15, outG, lu1, ld1]
theorem RMake_err (n : Int) (u d : List (List Bool)) (worn : List Int) (l : List Tr) (hn : n < 1 ∨ 64 < n) : Am.Fn Try.prog 15 [0, 0, 1, 1, 0, 0, 1, 0] [JB u d n worn, TRS l] (.tup [.agg [I 0, I 0, .nils, .nils, I 0, .bool false, .nils], I 1]) := by
  refine fn_introX mixed (X := X15) c15 20 (by simp [X15]) fun Q hR hN => ?_
  simp [X15]
  refine call_of (RPlan_arg 48 12 n u d hn) ?_
  simp
  refine hR _ _ ?_
  simp [X15]
end Go.Proofs.Ytgdcogoacnghkaa.N
