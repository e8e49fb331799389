/-
  Chapter 26: plans.
-/
import Derived.Test.YtgdcogoacnghkaaQNdA
namespace Go.Proofs.Ytgdcogoacnghkaa.N
set_option linter.unusedSimpArgs false
set_option linter.unusedVariables false
set_option linter.unusedSectionVars false
open Go.Proofs.Ytgdcogoacnghkaa.Am
set_option maxHeartbeats 4000000
theorem frz_st (l : List Stk) : (l.map stC).map frzE = l.map stC := by
  rw [List.map_map]; exact List.map_congr_left fun _ _ => rfl
theorem nr_st (l : List Stk) : ∀ e ∈ l.map stC, noRefE e = true := fun e he => by
  obtain ⟨s, _, rfl⟩ := List.mem_map.1 he; rfl
/-- a list in parts: the loop's function -/
theorem Chunk_fi (c : List Int) (n : Nat) (hn : 1 ≤ n) (r0 r1 r2 r4 r5 r6 r7 r8 r9 r10 : Row) : FI Try.prog (.fn (.func 47) [] []) [.own 3 1 c.length 1 0 c.length, I n] [r0, r1, r2, (1, .arr 1 0 false (c.map I)), r4, r5, r6, r7, r8, r9, r10, dd, dd]
    (.fn (.func 58) [] [.ptr 11 1 0, .ptr 12 1 0]) [(3, (1, .arr 1 1 true (c.map I))), (11, (1, .var [IL c])), (12, (1, .var [I n]))] := by
  have n1 : ¬ (n : Int) < 1 := by omega
  refine fn_introXF mixed (X := X47) c47 (by rfl) (by simp [X47]) (by simp) fun Q hR hN => ?_
  simp [X47, n1]
  refine hR _ _ ?_
  simp [X47, finI]
theorem range36 (c : List Int) (n : Nat) (hn : 1 ≤ n) : True := trivial
theorem valid_spec {w h : Nat} {u d : List (List Bool)} (hv : validB w h u d = true) : u.length = h ∧ d.length = h ∧ (∀ r ∈ u, r.length = w) ∧ (∀ r ∈ d, r.length = w) ∧ 48 ≤ w ∧ w ≤ 121 ∧ 12 ≤ h ∧ h ≤ 122 ∧ w % 2 = 0 ∧ h % 3 = 0 := by
  simp only [validB, sizeB, filled, Bool.and_eq_true, decide_eq_true_eq, Bool.not_eq_true', decide_eq_false_iff_not, List.all_eq_true] at hv
  obtain ⟨⟨⟨⟨⟨⟨⟨a1, a2⟩, a3⟩, a4⟩, a5⟩, a6⟩, b1, b2⟩, c1, c2⟩ := hv
  rw [Int.tdiv_eq_ediv_of_nonneg (by omega)] at a2 a3 a5 a6
  rw [Int.tmod_eq_emod_of_nonneg (by omega)] at a1 a4
  exact ⟨by omega, by omega, fun r hr => by have := b2 r hr; omega, fun r hr => by have := c2 r hr; omega, by omega, by omega, by omega, by omega, by omega, by omega⟩
theorem Plan_fn (w : Nat) (h : Nat) (n : Nat) (u d : List (List Bool)) (hv : validB w h u d = true) (hn : 1 ≤ n) (hn2 : n ≤ 64) : Am.Fn Try.prog 32 [3, 0] [PC w h u d, I n] (.tup [.uslc ((planG w n 0 u d).map stC), I 0]) := by
  obtain ⟨hu, hd, hru, hrd, hw0, hw, hh0, hh, _⟩ := valid_spec hv
  have hV := Valid_fn w h u d (by omega) (by omega) (by omega) (by omega)
  rw [hv] at hV
  have n1 : ¬ (n : Int) < 1 := by omega
  have n2 : ¬ (64 : Int) < n := by omega
  refine fn_introX mixed (X := X32) c32 13 (by simp [X32]) fun Q hR hN => ?_
  simp [X32, n1, n2]
  refine call_of hV ?_
  simp
  refine loopX (fun (p : Nat × List Stk) vs h' => p.1 ≤ h ∧ p.2 = planG w n 0 (u.take p.1) (d.take p.1) ∧ p.2.length ≤ p.1 * 1000 ∧ vs = [.undef, I n, .ptr 8 1 0, .undef, .undef, .ptr 9 1 0, .undef, .undef, .undef, .undef, I h, I p.1, .undef, .undef, .undef] ∧
    h' = [dd, dd, dd, dd, dd, dd, dd, dd, (1, .var [I w, I h, DT u, DT d]), (1, .var [.own 10 1 p.2.length 3 0 p.2.length]), (1, .arr 3 0 false (p.2.map stC)), dd, dd]) (fun p => h - p.1) (0, []) ?_ ?_
  · simp [planG]
  · rintro ⟨k, pl⟩ vs h' ⟨h1, h2, h3, rfl, rfl⟩ Q' hK hX hR'
    dsimp only at h1 h2 h3
    have hw1 : IntKind.i64.wrap ((k : Int) + 1) = ((k + 1 : Nat) : Int) := wrap_ok (by omega) (by omega)
    by_cases hk : k < h
    · have hku : k < u.length := by omega
      have hkd : k < d.length := by omega
      have hC := columns_fn w [u[k], d[k]] (by omega) (by simp) (by
        intro r hr
        simp at hr
        rcases hr with rfl | rfl
        · have := hru _ (List.getElem_mem hku); omega
        · have := hrd _ (List.getElem_mem hkd); omega)
      rw [cols_eq] at hC
      have hcl : (cols w u[k] d[k]).length ≤ 2 * w := by
        exact cols_len (hru _ (List.getElem_mem hku)) (hrd _ (List.getElem_mem hkd))
      have hcb : ∀ x ∈ cols w u[k] d[k], 0 ≤ x ∧ x ≤ 100000 := fun x hx => by
        have := cols_bound (hru _ (List.getElem_mem hku)) (hrd _ (List.getElem_mem hkd)) x hx; omega
      generalize hcc : cols w u[k] d[k] = c at hC hcl hcb
      simp [hk, hku, hkd]
      refine call_of hC ?_
      simp
      refine callv_of (Chunk_fi c n hn _ _ _ _ _ _ _ _ _ _) ?_
      simp
      refine range_of mixed (X := X58) c58 rfl (by rfl) (by simp [X58]) (by simp) ?_
      intro l Q2 hR2 hN2
      simp [X58]
      refine loopR (fun (i : Nat) vs h' => i ≤ c.length + n ∧ ∃ (p : List Stk) (es : List PV) (ver g4 g5 g6 g7 : Nat) (x y z : PV), p ++ (chunk n (c.drop i)).map (struck k w) = pl ++ (chunk n c).map (struck k w) ∧ es.map frzE = p.map stC ∧ (∀ e ∈ es, noRefE e = true) ∧ es.length = p.length ∧ p.length ≤ k * 1000 + i ∧
        vs = [.fn (.yield l) [] [], .ptr 11 1 0, .ptr 12 1 0, I i, x, y, z, gOf none] ∧
        h' = [dd, dd, (1, .var [I k]), (1, .arr 1 1 true (c.map I)), (g4, .dead), (g5, .dead), (g6, .dead), (g7, .dead), (1, .var [I w, I h, DT u, DT d]), (1, .var [.own 10 1 p.length 3 0 p.length]), (1, .arr 3 ver false es), (1, .var [IL c]), (1, .var [I n])]) (fun i => c.length - i) 0 ?_ ?_
      · refine ⟨by omega, pl, pl.map stC, 0, 0, 0, 0, 0, .undef, .undef, .undef, ?_, frz_st pl, nr_st pl, ?_, ?_, ?_, ?_⟩
        · rw [List.drop_zero]
        · rw [List.length_map]
        · exact Nat.le_trans h3 (Nat.le_add_right _ _)
        · rfl
        · rfl
      · rintro i vs h' ⟨g1, p, es, ver, g4, g5, g6, g7, x, y, z, e1, e2, e3, e4, e5, rfl, rfl⟩ Q3 hK3 hX3 hR3
        by_cases hi : i < c.length
        · have hi2 : i ≤ c.length := by omega
          obtain ⟨e, he⟩ : ∃ e : Nat, e = min n (c.length - i) := ⟨_, rfl⟩
          have he1 : (if c.length - i < n then ((c.length - i : Nat) : Int) else (n : Int)) = e := by rw [he]; split <;> omega
          obtain ⟨j, hj⟩ : ∃ j : Nat, j = i + e := ⟨_, rfl⟩
          have hw3 : IntKind.i64.wrap ((i : Int) + e) = (j : Int) := by rw [hj]; exact wrap_ok (by omega) (by omega)
          have hj1 : i ≤ j := by omega
          have hj2 : j ≤ c.length := by omega
          simp [hi, hi2, he1, hw3, hj1, hj2]
          refine yield_of rfl rfl ?_
          have hcut : (c.drop i).take n = (c.drop i).take (j - i) := by
            rw [hj, he]
            by_cases hm : n ≤ c.length - i
            · rw [Nat.min_eq_left hm]; congr 1; omega
            · rw [Nat.min_eq_right (by omega), List.take_of_length_le (l := c.drop i) (i := n) (by rw [List.length_drop]; omega), List.take_of_length_le (by rw [List.length_drop]; omega)]
          have hS := struck_fn k w ((c.drop i).take (j - i)) (by omega) (by simp; omega) (fun x hx => hcb x (List.mem_of_mem_drop (List.mem_of_mem_take hx)))
          rw [show IL ((c.drop i).take (j - i)) = PV.slc (List.take (j - i) (List.drop i (List.map I c))) by simp [List.map_take, List.map_drop]] at hS
          have hst : struck k w ((c.drop i).take (j - i)) = struck k w ((c.drop i).take n) := by rw [hcut]
          rw [hst] at hS
          generalize hs : struck k w ((c.drop i).take n) = s at hS
          have hcap : (p.length + 1) * 56 ≤ 140737488355328 := by omega
          simp [loopY, e2]
          rw [if_pos e3]
          refine call_of hS ?_
          have hw2 : IntKind.i64.wrap ((i : Int) + n) = ((i + n : Nat) : Int) := wrap_ok (by omega) (by omega)
          have hc0 : c.drop i ≠ [] := fun e => by
            have := congrArg List.length e
            rw [List.length_drop] at this
            simp at this; omega
          rw [chunk_cons hn hc0, List.drop_drop, List.map_cons, hs] at e1
          simp [hcap, hw2]
          refine hK3 (i + n) _ _ (by omega) ?_
          refine ⟨by omega, p ++ [s], p.map stC ++ [stU s], ver + 1, g4 + 1, g5 + 1, g6 + 1, g7, I e, .bool true, .bool false, by rw [← e1]; simp, ?_, ?_, ?_, ?_, by simp, by simp⟩
          · rw [List.map_append, frz_st]; simp
          · intro e he
            rcases List.mem_append.1 he with h | h
            · exact nr_st p e h
            · rw [List.mem_singleton] at h; subst h; rfl
          · simp
          · simp; omega
        · rw [List.drop_eq_nil_of_le (by omega : c.length ≤ i), chunk_nil, List.map_nil, List.append_nil] at e1
          have hlp : p.length ≤ (k + 1) * 1000 := by
            have := chunk_len hn c
            rw [e1, List.length_append, List.length_map]; omega
          simp [hi]
          refine hX3 _ _ _ ?_
          simp
          refine hN2 none _ _ (by rfl) ?_
          simp [e2]
          rw [if_pos e3]
          simp [hw1]
          refine hK (k + 1, p) _ _ (by dsimp only; omega) ?_
          simp
          refine ⟨by omega, ?_, hlp⟩
          rw [planG_snoc hku hkd, ← h2, planRow, hcc, e1]
    · simp [hk]
      refine hX _ _ _ ?_
      rw [List.take_of_length_le (by omega), List.take_of_length_le (by omega)] at h2
      subst h2
      simp
      refine hR _ _ ?_
      simp [X32]
theorem Plan_arg (w h n : Int) (u d : List (List Bool)) (hn : n < 1 ∨ 64 < n) : Am.Fn Try.prog 32 [3, 0] [PC w h u d, I n] (.tup [.nils, I 1]) := by
  refine fn_introX mixed (X := X32) c32 13 (by simp [X32]) fun Q hR hN => ?_
  by_cases n1 : n < 1
  · simp [X32, n1]
    refine hR _ _ ?_
    simp [X32]
  · have n2 : 64 < n := by omega
    simp [X32, n1, n2]
    refine hR _ _ ?_
    simp [X32]
theorem Plan_plate (w h n : Int) (u d : List (List Bool)) (hw : -9223372036854775808 ≤ w ∧ w ≤ 9223372036854775807) (hh : -9223372036854775808 ≤ h ∧ h ≤ 9223372036854775807) (hu : u.length ≤ 100000) (hd : d.length ≤ 100000) (hn : ¬ n < 1) (hn2 : ¬ 64 < n) (hv : validB w h u d = false) : Am.Fn Try.prog 32 [3, 0] [PC w h u d, I n] (.tup [.nils, I 250]) := by
  have hV := Valid_fn w h u d hw hh hu hd
  rw [hv] at hV
  refine fn_introX mixed (X := X32) c32 13 (by simp [X32]) fun Q hR hN => ?_
  simp [X32, hn, hn2]
  refine call_of hV ?_
  simp
  refine hR _ _ ?_
  simp [X32]
end Go.Proofs.Ytgdcogoacnghkaa.N
