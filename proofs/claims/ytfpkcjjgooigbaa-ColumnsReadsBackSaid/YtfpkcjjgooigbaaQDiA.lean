/-
  Chapter 20: an entry is placed.
-/
import Derived.Test.YtfpkcjjgooigbaaQDhA
import Derived.Test.YtfpkcjjgooigbaaQDiX
namespace Go.Proofs.Ytfpkcjjgooigbaa.C
set_option linter.unusedSimpArgs false
set_option linter.unusedVariables false
set_option linter.unusedSectionVars false
open Go.Proofs.Ytfpkcjjgooigbaa.Am
open Go.Proofs.Ytfpkcjjgooigbaa.L (mixed wrap_ok I U CL CLL UCL Word clean words zeros ic wd brk brkG longG indent)
set_option maxHeartbeats 8000000
theorem place0_fi (rs : List Row) (x : Word) (r0 : Am.Row) (hl : rs.length ≤ 1000) : FI Try.prog (.fn (.func 49) [] []) [.own 1 1 rs.length 1 0 rs.length, I 0, CL x] [r0, (1, .arr 1 0 false (rs.map URW)), dd, dd, dd, dd] (.own 1 1 (rs.length + 1) 1 0 (rs.length + 1))
    [(1, (1, .arr 1 1 false (rs.map URW ++ [URW [x]]))), (2, (1, .dead)), (4, (1, .dead)), (5, (1, .dead))] := by
  have c1 : (rs.length + 1) * 24 ≤ 140737488355328 := by omega
  have w1 : IntKind.i64.wrap ((rs.length : Int) + 1 - 1) = (rs.length : Int) := by rw [wrap_ok (by omega) (by omega)]; omega
  have w2 : IntKind.i64.wrap (rs.length : Int) = (rs.length : Int) := wrap_ok (by omega) (by omega)
  refine fn_introXF mixed (X := X49) c49 (by rfl) (by simp [X49]) (by simp) fun Q hR hN => ?_
  have t0 : (rs.length : Int) < (rs.length : Int) + 1 := by omega
  simp [X49, c1, w1, w2, t0]
  refine hR _ _ ?_
  simp [X49, finI]
theorem place1_fi (rs : List Row) (r : Row) (x : Word) (j : Nat) (r0 : Am.Row) (hl : rs.length ≤ 1000) (hr : 0 < r.length) (hr2 : r.length ≤ 1000) (hj : 0 < j) : FI Try.prog (.fn (.func 49) [] []) [.own 1 1 (rs.length + 1) 1 0 (rs.length + 1), I j, CL x] [r0, (1, .arr 1 0 false (rs.map URW ++ [URW r])), dd, dd, dd, dd] (.own 1 1 (rs.length + 1) 1 0 (rs.length + 1))
    [(1, (1, .arr 1 2 false (rs.map URW ++ [URW (r ++ [x])]))), (4, (1, .dead)), (5, (1, .dead))] := by
  have c1 : (r.length + 1) * 24 ≤ 140737488355328 := by omega
  have w1 : IntKind.i64.wrap ((rs.length : Int) + 1 - 1) = (rs.length : Int) := by rw [wrap_ok (by omega) (by omega)]; omega
  have w2 : IntKind.i64.wrap (rs.length : Int) = (rs.length : Int) := wrap_ok (by omega) (by omega)
  have hfz : List.map (frzE ∘ CL) r = r.map CL := List.map_congr_left fun r _ => rfl
  have t1 : ¬ (j : Int) = 0 := by omega
  have t2 : ¬ j = 0 := by omega
  have t0 : (rs.length : Int) < (rs.length : Int) + 1 := by omega
  have hns : List.all (r.map CL) (fun e => (ecells e).length == 1) = true := List.all_eq_true.2 fun e he => by obtain ⟨z, _, rfl⟩ := List.mem_map.1 he; rfl
  refine fn_introXF mixed (X := X49) c49 (by rfl) (by simp [X49]) (by simp) fun Q hR hN => ?_
  simp [X49, c1, w1, w2, t1, t2, t0, hr, hns, hfz]
  refine hR _ _ ?_
  simp [X49, finI]
theorem Read2a (rows : List Row) (M : Md rows) : Am.Fn Try.prog 27 [1, 0] [CLL (stairsL rows), I (nc rows)] (.tup [.uslc (rows.map URW), .bool true]) := by
  have E := M.ev'
  obtain ⟨hp, h1, h4, ha, hl, he⟩ := id E
  have n4 := M.n4
  obtain ⟨n, hn⟩ : ∃ n, n = nc rows := ⟨_, rfl⟩
  rw [← hn] at h1 h4 ⊢
  have hlen := stairs_len M
  rw [← hn] at hlen
  have hln : rows.length * n ≤ 4 * 4 := Nat.mul_le_mul n4 h4
  have hn0 : ¬ n = 0 := by omega
  have hn0' : ¬ (n : Int) = 0 := by omega
  refine fn_introX mixed (X := X27) c27 6 (by simp [X27]) fun Q hR hN => ?_
  simp [X27]
  refine loopX (fun (p : Nat × Nat) vs h => p.1 ≤ rows.length ∧ p.2 < n ∧ (p.1 = rows.length → p.2 = 0) ∧
    vs = [CLL (stairsL rows), I n, .undef, .undef, .own 1 1 (acc rows p.1 p.2).length 1 0 (acc rows p.1 p.2).length, .undef, .undef, .undef, .undef, .undef, CLL (stairsL rows), I (stairsL rows).length, I (p.1 * n + p.2 : Nat), .undef, .undef, .undef] ∧ h = [dd, (1, .arr 1 0 false ((acc rows p.1 p.2).map URW)), dd, dd, dd, dd]) (fun p => rows.length * n - (p.1 * n + p.2)) (0, 0) ?_ ?_
  · simp [acc]
    omega
  · rintro ⟨q, k⟩ vs h ⟨g1, g2, g3, rfl, rfl⟩ Q1 hK hX hR'
    dsimp only at g1 g2 g3
    by_cases hq : q < rows.length
    · have hi : q * n + k < rows.length * n := by
        have : (q + 1) * n ≤ rows.length * n := Nat.mul_le_mul_right n (by omega)
        rw [Nat.add_mul] at this; omega
      have hsg := stair_get M hq (show k < nc rows by omega)
      rw [← hn] at hsg
      obtain ⟨i, hie⟩ : ∃ i, i = q * n + k := ⟨_, rfl⟩
      rw [← hie] at hi hsg ⊢
      have hil : i < (stairsL rows).length := by omega
      have hge : (stairsL rows)[i] = zeros (2 * k) ++ entAt rows q k := by
        rw [List.getElem?_eq_getElem hil] at hsg; exact Option.some.inj hsg
      obtain ⟨hc, hcl⟩ := ent_ok M hq (show k < nc rows by omega)
      obtain ⟨c, t, hct, hc0⟩ := cl_head hc
      have hind : indent (zeros (2 * k) ++ entAt rows q k) = 2 * k := indent_zs _ _ fun c' t' e => by rw [hct] at e; cases e; exact hc0
      generalize hL : stairsL rows = Ls at hil hge hlen hK hX ⊢
      have hB := L.indentP_fn Ls[i] (by rw [hge]; simp [maxLen]; omega)
      rw [hge, hind, ← hge] at hB
      have hB2 := L.cleanP_fn (entAt rows q k) (by simp [maxLen]; omega)
      rw [show (clean (entAt rows q k)).2 = true from hc] at hB2
      have hmod : (i : Int).tmod n = (k : Int) := by
        rw [Int.tmod_eq_emod_of_nonneg (by omega), hie]
        rw [show ((q * n + k : Nat) : Int) = (k : Int) + (n : Int) * (q : Int) by rw [Int.natCast_add, Int.natCast_mul, Int.mul_comm, Int.add_comm], Int.add_mul_emod_self_left, Int.emod_eq_of_lt (by omega) (by omega)]
      obtain ⟨o, ho⟩ : ∃ o, o = 2 * k := ⟨_, rfl⟩
      have w1 : IntKind.i64.wrap (2 * (k : Int)) = (o : Int) := by rw [wrap_ok (by omega) (by omega)]; omega
      have w2 : IntKind.i64.wrap ((i : Int) + 1) = ((i + 1 : Nat) : Int) := wrap_ok (by omega) (by omega)
      rw [← ho] at hB hge
      obtain ⟨x, hx⟩ : ∃ x, x = entAt rows q k := ⟨_, rfl⟩
      rw [← hx] at hB2 hge hcl
      have hsl : Ls[i].length = o + x.length := by rw [hge]; simp
      have e1 : List.drop o (List.map U Ls[i]) = List.map U x := by rw [hge, ← List.map_drop, L.drop_line]
      have e2 : List.take (Ls[i].length - o) (List.map U x) = List.map U x := List.take_of_length_le (by simp; omega)
      have c1 : o ≤ Ls[i].length := by omega
      have c2 : (o : Int) ≤ (Ls[i].length : Int) := by omega
      have hnx := acc_nxt E hq (show k < nc rows by omega)
      rw [← hn] at hnx
      have hkl : k < rows[q].length := by rw [ha q hq]; omega
      have hxe : x = rows[q][k] := by rw [hx, entAt_eq hq hkl]
      rw [List.take_succ_eq_append_getElem hkl, ← hxe] at hnx
      have hni : (nxt n q k).1 * n + (nxt n q k).2 = i + 1 ∧ (nxt n q k).1 ≤ rows.length ∧ (nxt n q k).2 < n ∧ ((nxt n q k).1 = rows.length → (nxt n q k).2 = 0) := by
        unfold nxt
        split
        · refine ⟨?_, by dsimp only; omega, by dsimp only; omega, fun _ => rfl⟩
          show (q + 1) * n + 0 = i + 1
          rw [Nat.add_mul]; omega
        · refine ⟨?_, by dsimp only; omega, by dsimp only; omega, fun h => by dsimp only at h; omega⟩
          show q * n + (k + 1) = i + 1
          omega
      obtain ⟨m1, m2, m3, m4⟩ := hni
      simp [hil, hn0, hn0', hmod]
      refine call_of hB ?_
      simp [w1, e1, e2, c1, c2]
      refine call_of hB2 ?_
      simp
      by_cases hk0 : k = 0
      · subst hk0
        have hac : acc rows q 0 = rows.take q := acc_zero q
        rw [hac]
        have hP := place0_fi (rows.take q) x dd (by rw [List.length_take]; omega)
        rw [List.take_zero, List.nil_append] at hnx
        obtain ⟨A, hA⟩ : ∃ A, A = rows.take q := ⟨_, rfl⟩
        rw [← hA] at hP hnx ⊢
        simp only [Int.natCast_zero]
        refine callv_of hP ?_
        simp [w2]
        refine hK (nxt n q 0) _ _ (by dsimp only; omega) ?_
        rw [m1, hnx]
        simp [m2, m3]
        exact m4
      · have hac := acc_pos hq hk0
        rw [hac]
        have hP := place1_fi (rows.take q) (rows[q].take k) x k dd (by rw [List.length_take]; omega) (by rw [List.length_take]; omega) (by rw [List.length_take]; omega) (by omega)
        obtain ⟨A, hA⟩ : ∃ A, A = rows.take q := ⟨_, rfl⟩
        obtain ⟨C, hC⟩ : ∃ C, C = rows[q].take k := ⟨_, rfl⟩
        rw [← hA, ← hC] at hP hnx ⊢
        simp only [List.length_append, List.length_cons, List.length_nil, List.map_append, List.map_cons, List.map_nil, Nat.zero_add]
        refine callv_of hP ?_
        simp [w2]
        refine hK (nxt n q k) _ _ (by dsimp only; omega) ?_
        rw [m1, hnx]
        simp [m2, m3]
        exact m4
    · obtain rfl : q = rows.length := by omega
      have hk0 := g3 rfl
      subst hk0
      have hac : acc rows rows.length 0 = rows := by rw [acc_zero, List.take_length]
      dsimp only
      rw [hac]
      have hm0 : ((rows.length : Int) * (n : Int)).tmod n = 0 := by rw [Int.tmod_eq_emod_of_nonneg (Int.mul_nonneg (by omega) (by omega))]; simp
      have hlen' : ((stairsL rows).length : Int) = (rows.length : Int) * (n : Int) := by rw [hlen]; simp
      generalize stairsL rows = Ls at hlen hlen' hX ⊢
      rw [show rows.length * n + 0 = Ls.length by omega]
      rw [← hlen'] at hm0
      simp
      refine hX _ _ _ ?_
      simp [hm0, hn0, hn0']
      refine hR _ _ ?_
      simp [X27]
end Go.Proofs.Ytfpkcjjgooigbaa.C
