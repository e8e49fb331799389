/-
  Chapter 26: the plan of the reference.
-/
import Derived.Test.YtgdcogoacnghkaaQNlA
namespace Go.Proofs.Ytgdcogoacnghkaa.N
set_option linter.unusedSimpArgs false
set_option linter.unusedVariables false
set_option linter.unusedSectionVars false
open Go.Proofs.Ytgdcogoacnghkaa.Am
set_option maxHeartbeats 8000000
theorem posG_cons {B : List Bool} {x : Nat} (h : x < B.length) : posG 0 x (B.drop x) = if B[x] then (x : Int) :: posG 0 (x + 1) (B.drop (x + 1)) else posG 0 (x + 1) (B.drop (x + 1)) := by
  rw [List.drop_eq_getElem_cons h, posG, Nat.zero_add]
theorem posG_shift (w : Nat) : ∀ (r : List Bool) (x y : Nat), posG w x r = posG 0 (w + x) r
  | [], x, y => rfl
  | b :: r, x, y => by
    simp only [posG, Nat.zero_add]
    rw [posG_shift w r (x + 1) y, show w + (x + 1) = w + x + 1 by omega]
theorem cols_pos {w : Nat} {u d : List Bool} (hu : u.length = w) : cols w u d = posG 0 0 (u ++ d) := by
  rw [posG_append, cols, posG_shift w d 0 0, hu]; simp
theorem struck_up {y : Int} {w x : Nat} {r : List Int} (h : x < w) : struck y w (r ++ [(x : Int)]) = ⟨y, (struck y w r).up ++ [(x : Int)], (struck y w r).down⟩ := by
  have h1 : (x : Int) < w := by omega
  have h2 : ¬ (w : Int) ≤ x := by omega
  simp [struck, List.filter_append, h1, h2]
theorem struck_down {y : Int} {w x : Nat} {r : List Int} (h : ¬ x < w) : struck y w (r ++ [(x : Int)]) = ⟨y, (struck y w r).up, (struck y w r).down ++ [((x - w : Nat) : Int)]⟩ := by
  have h1 : ¬ (x : Int) < w := by omega
  have h2 : (w : Int) ≤ x := by omega
  have h3 : ((x - w : Nat) : Int) = (x : Int) - w := by omega
  simp [struck, List.filter_append, h1, h2, h3]
theorem struck_len (y : Int) (w : Nat) (r : List Int) : (struck y w r).up.length ≤ r.length ∧ (struck y w r).down.length ≤ r.length := by
  simp only [struck, List.length_map]
  exact ⟨List.length_filter_le _ _, List.length_filter_le _ _⟩
theorem chunk_full {n : Nat} {a b : List Int} (hn : 1 ≤ n) (h : a.length = n) : chunk n (a ++ b) = a :: chunk n b := by
  rw [chunk_cons hn (fun e => by have := congrArg List.length e; rw [List.length_append, List.length_nil] at this; omega), List.take_left' h, List.drop_left' h]
theorem chunk_rest {n : Nat} {a : List Int} (hn : 1 ≤ n) (h : a.length < n) : chunk n a = if a = [] then [] else [a] := by
  split
  · rename_i e; subst e; rfl
  · rename_i e
    rw [chunk_cons hn e, List.take_of_length_le (by omega), List.drop_eq_nil_of_le (by omega), chunk_nil]
/-- what is left of a row goes into the strikes still to come -/
def Left (n : Nat) (y : Int) (w : Nat) (B : List Bool) (x : Nat) (P : List Stk) (rest : List Int) (R : List Stk) : Prop := P ++ (chunk n (rest ++ posG 0 x (B.drop x))).map (struck y w) = R
theorem Left.none {n w x : Nat} {y : Int} {B : List Bool} {P R : List Stk} {rest : List Int} (h : Left n y w B x P rest R) (hx : x < B.length) (hb : B[x] = false) : Left n y w B (x + 1) P rest R := by
  unfold Left at h ⊢; rw [posG_cons hx, hb] at h; simpa using h
theorem Left.more {n w x : Nat} {y : Int} {B : List Bool} {P R : List Stk} {rest : List Int} (h : Left n y w B x P rest R) (hx : x < B.length) (hb : B[x] = true) : Left n y w B (x + 1) P (rest ++ [(x : Int)]) R := by
  unfold Left at h ⊢; rw [posG_cons hx, hb, if_pos rfl] at h; rw [← h, List.append_assoc]; rfl
theorem Left.full {n w x : Nat} {y : Int} {B : List Bool} {P R : List Stk} {rest : List Int} {s : Stk} (h : Left n y w B x P rest R) (hn : 1 ≤ n) (hr : rest.length = n) (hs : struck y w rest = s) : Left n y w B x (P ++ [s]) [] R := by
  unfold Left at h ⊢; rw [chunk_full hn hr, List.map_cons, hs] at h; rw [← h]; simp
theorem Left.done {n w x : Nat} {y : Int} {B : List Bool} {P R : List Stk} {rest : List Int} (h : Left n y w B x P rest R) (hx : B.length ≤ x) (hn : 1 ≤ n) (hr : rest.length < n) : R = P ++ if rest = [] then [] else [struck y w rest] := by
  unfold Left at h
  rw [List.drop_eq_nil_of_le hx, posG, List.append_nil, chunk_rest hn hr] at h
  rw [← h]; split <;> rfl
theorem nr_stU (p : List Stk) : ∀ x, x ∈ p.map stU → noRefE x = true := fun x hx => by
  obtain ⟨s, _, rfl⟩ := List.mem_map.1 hx; rfl
theorem RPlan_fn (w : Nat) (h : Nat) (n : Nat) (u d : List (List Bool)) (hv : validB w h u d = true) (hn : 1 ≤ n) (hn2 : n ≤ 64) : Am.Fn Try.prog 24 [3, 0] [PC w h u d, I n] (.tup [.uslc ((planG w n 0 u d).map stU), I 0]) := by
  obtain ⟨hu, hd, hru, hrd, hw0, hw, hh0, hh, _⟩ := valid_spec hv
  have hV := RValid_fn w h u d (by omega) (by omega) (by omega) (by omega)
  rw [hv] at hV
  have n1 : ¬ (n : Int) < 1 := by omega
  have n2 : ¬ (64 : Int) < n := by omega
  refine fn_introX mixed (X := X24) c24 16 (by simp [X24]) fun Q hR hN => ?_
  simp [X24, n1, n2]
  refine call_of hV ?_
  simp
  refine loopX (fun (p : Nat × List Stk) vs h' => p.1 ≤ h ∧ p.2 = planG w n 0 (u.take p.1) (d.take p.1) ∧ p.2.length ≤ p.1 * 1000 ∧ vs = [.undef, I n, .ptr 11 1 0, .undef, .undef, .undef, .own 12 1 p.2.length 3 0 p.2.length, I p.1, .undef, .undef, .undef, .undef, .undef, .undef, .undef, .undef, .undef, .undef, .undef, .undef, .undef, .undef] ∧
    h' = [dd, dd, dd, dd, dd, dd, dd, dd, dd, dd, dd, (1, .var [I w, I h, DT u, DT d]), (1, .arr 3 0 false (p.2.map stU)), dd, dd, dd]) (fun p => h - p.1) (0, []) ?_ ?_
  · simp [planG]
  · rintro ⟨y, P0⟩ vs h' ⟨h1, h2, h3, rfl, rfl⟩ Q' hK hX hR'
    dsimp only at h1 h2 h3
    have hw1 : IntKind.i64.wrap ((y : Int) + 1) = ((y + 1 : Nat) : Int) := wrap_ok (by omega) (by omega)
    by_cases hy : y < h
    · have hyu : y < u.length := by omega
      have hyd : y < d.length := by omega
      have lu := hru _ (List.getElem_mem hyu)
      have ld := hrd _ (List.getElem_mem hyd)
      have hL := cols_pos (d := d[y]) lu
      have hpr : planRow w n y u[y] d[y] = (chunk n (posG 0 0 (u[y] ++ d[y]))).map (struck y w) := by rw [planRow, hL]
      have hBl : (u[y] ++ d[y]).length = 2 * w := by rw [List.length_append]; omega
      have hB1 : ∀ x (h : x < u[y].length), (u[y] ++ d[y])[x]? = some u[y][x] := fun x h => by rw [List.getElem?_append_left h, List.getElem?_eq_getElem h]
      have hB2 : ∀ x (h : x < d[y].length), (u[y] ++ d[y])[w + x]? = some (d[y])[x] := fun x h => by rw [List.getElem?_append_right (by omega), lu, Nat.add_sub_cancel_left, List.getElem?_eq_getElem h]
      obtain ⟨R, hRR⟩ : ∃ R, R = P0 ++ planRow w n y u[y] d[y] := ⟨_, rfl⟩
      have hL0 : Left n y w (u[y] ++ d[y]) 0 P0 [] R := by rw [hRR, hpr]; rfl
      generalize u[y] ++ d[y] = B at hBl hB1 hB2 hL0
      simp [hy]
      refine loopX (fun (p : Nat × List Stk × List Int) vs h' => p.1 ≤ 2 * w ∧ Left n y w B p.1 p.2.1 p.2.2 R ∧ p.2.2.length < n ∧ p.2.1.length ≤ y * 1000 + p.1 ∧ vs = [.undef, I n, .ptr 11 1 0, .undef, .undef, .undef, .own 12 1 p.2.1.length 3 0 p.2.1.length, I y, .ptr 13 1 0, I p.2.2.length, I p.1, .undef, .undef, .undef, .undef, .undef, .undef, .undef, .undef, .undef, .undef, .undef] ∧
        h' = [dd, dd, dd, dd, dd, dd, dd, dd, dd, dd, dd, (1, .var [I w, I h, DT u, DT d]), (1, .arr 3 0 false (p.2.1.map stU)), (1, .var [I y, .own 14 1 (struck y w p.2.2).up.length 1 0 (struck y w p.2.2).up.length, .own 15 1 (struck y w p.2.2).down.length 1 0 (struck y w p.2.2).down.length]), (1, .arr 1 0 false ((struck y w p.2.2).up.map I)), (1, .arr 1 0 false ((struck y w p.2.2).down.map I))]) (fun p => 2 * w - p.1) (0, P0, []) ?_ ?_
      · simp [struck]
        exact ⟨hL0, by omega, h3⟩
      · rintro ⟨x, P, rest⟩ vs h' ⟨g1, g2, g3, g4, rfl, rfl⟩ Q2 hK2 hX2 hR2
        dsimp only at g1 g2 g3 g4
        obtain ⟨U, D, hs⟩ : ∃ U D, struck y w rest = ⟨y, U, D⟩ := ⟨_, _, rfl⟩
        obtain ⟨sl1, sl2⟩ := struck_len y w rest
        dsimp only
        rw [hs] at sl1 sl2 ⊢
        dsimp only at sl1 sl2 ⊢
        have hw3 : IntKind.i64.wrap (2 * (w : Int)) = ((2 * w : Nat) : Int) := by rw [wrap_ok (by omega) (by omega)]; omega
        have hwn : IntKind.i64.wrap (n : Int) = n := wrap_ok (by omega) (by omega)
        have c1 : (U.length + 1) * 8 ≤ 140737488355328 := by omega
        have c2 : (D.length + 1) * 8 ≤ 140737488355328 := by omega
        have c3 : (P.length + 1) * 56 ≤ 140737488355328 := by omega
        have nP := nr_stU P
        by_cases hx : x < 2 * w
        · have hw2 : IntKind.i64.wrap ((x : Int) + 1) = ((x + 1 : Nat) : Int) := wrap_ok (by omega) (by omega)
          have hw4 : IntKind.i64.wrap ((rest.length : Int) + 1) = ((rest.length + 1 : Nat) : Int) := wrap_ok (by omega) (by omega)
          have hx' : (x : Int) < 2 * (w : Int) := by omega
          have hxB : x < B.length := by omega
          by_cases hxw : x < w
          · have hxu : x < u[y].length := by omega
            have hB : B[x] = u[y][x] := by have := hB1 x hxu; rw [List.getElem?_eq_getElem hxB] at this; exact Option.some.inj this
            have hxw2 : ¬ w ≤ x := by omega
            by_cases hb : u[y][x] = true
            · have g5 := g2.more hxB (hB.trans hb)
              have hs' := struck_up hxw (y := (y : Int)) (r := rest)
              rw [hs] at hs'
              dsimp only at hs'
              have hl' : (rest ++ [(x : Int)]).length = rest.length + 1 := by simp
              by_cases hf : rest.length + 1 = n
              · have g6 := g5.full hn (by omega) hs'
                have hf' : ((rest.length : Int) + 1) = n := by omega
                simp [hx, hxw, hyu, hyd, hb, hxu, hxw2, hw2, hw3, hw4, hwn, hf, hf', hx', c1, c2, c3, nP]
                refine hK2 (x + 1, P ++ [⟨y, U ++ [(x : Int)], D⟩], []) _ _ (by dsimp only; omega) ?_
                simp [struck]
                exact ⟨by omega, g6, by omega, by omega⟩
              · have hf' : ¬ ((rest.length : Int) + 1) = n := by omega
                simp [hx, hxw, hyu, hyd, hb, hxu, hxw2, hw2, hw3, hw4, hf, hf', hx', c1, c2, c3, nP]
                refine hK2 (x + 1, P, rest ++ [(x : Int)]) _ _ (by dsimp only; omega) ?_
                simp [hs']
                exact ⟨by omega, g5, by omega, by omega⟩
            · have hb : u[y][x] = false := by simpa using hb
              have g5 := g2.none hxB (hB.trans hb)
              have hf' : ¬ (rest.length : Int) = n := by omega
              have hf : ¬ rest.length = n := by omega
              simp [hx, hxw, hyu, hyd, hb, hxu, hxw2, hw2, hw3, hf, hf', hx', nP]
              refine hK2 (x + 1, P, rest) _ _ (by dsimp only; omega) ?_
              simp [hs]
              exact ⟨by omega, g5, by omega, by omega⟩
          · have hxu : x - w < d[y].length := by omega
            have hB : B[x] = (d[y])[x - w] := by have := hB2 (x - w) hxu; rw [show w + (x - w) = x by omega, List.getElem?_eq_getElem hxB] at this; exact Option.some.inj this
            have hw5 : IntKind.i64.wrap ((x : Int) - w) = ((x - w : Nat) : Int) := by rw [wrap_ok (by omega) (by omega)]; omega
            have hxw2 : w ≤ x := by omega
            by_cases hb : (d[y])[x - w] = true
            · have g5 := g2.more hxB (hB.trans hb)
              have hs' := struck_down hxw (y := (y : Int)) (r := rest)
              rw [hs] at hs'
              dsimp only at hs'
              have hl' : (rest ++ [(x : Int)]).length = rest.length + 1 := by simp
              by_cases hf : rest.length + 1 = n
              · have g6 := g5.full hn (by omega) hs'
                have hf' : ((rest.length : Int) + 1) = n := by omega
                simp [hx, hxw, hyu, hyd, hb, hxu, hw5, hxw2, hw2, hw3, hw4, hwn, hf, hf', hx', c1, c2, c3, nP]
                refine hK2 (x + 1, P ++ [⟨y, U, D ++ [((x - w : Nat) : Int)]⟩], []) _ _ (by dsimp only; omega) ?_
                simp [struck]
                exact ⟨by omega, g6, by omega, by omega⟩
              · have hf' : ¬ ((rest.length : Int) + 1) = n := by omega
                simp [hx, hxw, hyu, hyd, hb, hxu, hw5, hxw2, hw2, hw3, hw4, hf, hf', hx', c1, c2, c3, nP]
                refine hK2 (x + 1, P, rest ++ [(x : Int)]) _ _ (by dsimp only; omega) ?_
                simp [hs']
                exact ⟨by omega, g5, by omega, by omega⟩
            · have hb : (d[y])[x - w] = false := by simpa using hb
              have g5 := g2.none hxB (hB.trans hb)
              have hf' : ¬ (rest.length : Int) = n := by omega
              have hf : ¬ rest.length = n := by omega
              simp [hx, hxw, hyu, hyd, hb, hxu, hw5, hxw2, hw2, hw3, hf, hf', hx', nP]
              refine hK2 (x + 1, P, rest) _ _ (by dsimp only; omega) ?_
              simp [hs]
              exact ⟨by omega, g5, by omega, by omega⟩
        · obtain rfl : x = 2 * w := by omega
          have hD := g2.done (by omega) hn g3
          simp [hw3]
          refine hX2 _ _ _ ?_
          by_cases hr0 : rest = []
          · subst hr0
            rw [if_pos rfl, List.append_nil] at hD
            simp [hw1]
            refine hK (y + 1, P) _ _ (by dsimp only; omega) ?_
            simp
            exact ⟨by omega, by rw [planG_snoc hyu hyd, ← h2, ← hRR, hD], by omega⟩
          · have hr1 : 0 < rest.length := List.length_pos_iff.2 hr0
            rw [if_neg hr0, hs] at hD
            simp [hr1, hw1, c3]
            refine hK (y + 1, P ++ [⟨y, U, D⟩]) _ _ (by dsimp only; omega) ?_
            simp
            exact ⟨by omega, by rw [planG_snoc hyu hyd, ← h2, ← hRR, hD], by omega⟩
    · simp [hy]
      refine hX _ _ _ ?_
      rw [List.take_of_length_le (by omega), List.take_of_length_le (by omega)] at h2
      subst h2
      simp
      refine hR _ _ ?_
      simp [X24]
end Go.Proofs.Ytgdcogoacnghkaa.N
