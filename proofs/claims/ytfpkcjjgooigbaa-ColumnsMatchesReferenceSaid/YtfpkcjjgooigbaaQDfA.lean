/-
  Chapter 20: Lay agrees with the reference's.
-/
import Derived.Test.YtfpkcjjgooigbaaQDeA
namespace Go.Proofs.Ytfpkcjjgooigbaa.C
set_option linter.unusedSimpArgs false
set_option linter.unusedVariables false
set_option linter.unusedSectionVars false
open Go.Proofs.Ytfpkcjjgooigbaa.Am
open Go.Proofs.Ytfpkcjjgooigbaa.L (mixed wrap_ok I U CL CLL UCL Word clean words zeros ic wd brk brkG longG)
set_option maxHeartbeats 8000000
theorem lay_bound {rows : List Row} {w : Int} (hl : rows.length ≤ 100) (he : ∀ r ∈ rows, ∀ x ∈ r, x.length ≤ 1000) : (layR rows w).L.length ≤ maxLen ∧ ∀ x ∈ (layR rows w).L, x.length ≤ maxLen := by
  have nil : ∀ {f e : Int}, (Res.mk [] f e).L.length ≤ maxLen ∧ ∀ x ∈ (Res.mk [] f e).L, x.length ≤ maxLen := by simp
  unfold layR
  split
  · exact nil
  split
  · exact nil
  split
  · exact nil
  rename_i h1 h2 h3
  have E := Ev.of (by simpa using h2) hl he
  have c4 := E.c4
  have h3' : clB rows = true := by simpa using h3
  split
  · refine ⟨by simp [colsL]; unfold maxLen; omega, fun x hx => ?_⟩
    unfold colsL at hx
    obtain ⟨r, hr, rfl⟩ := List.mem_map.1 hx
    obtain ⟨j, hj, rfl⟩ := List.getElem_of_mem hr
    have := colPre_len E hj (nc rows) (Nat.le_refl _)
    unfold maxLen; omega
  split
  · obtain ⟨q1, q2⟩ := stairs_all E
    exact ⟨by unfold maxLen; dsimp only; omega, fun x hx => by have := q1 x hx; unfold maxLen; omega⟩
  split
  · rename_i h4
    have h5 := listU_len E (w := w.toNat) rows.length (Nat.le_refl _)
    rw [listU_all] at h5
    refine ⟨by unfold maxLen; dsimp only; omega, ?_⟩
    refine flat_all fun r hr => ?_
    have hr1 := (List.all_eq_true.1 h4) r hr
    unfold clB at h3'
    have hr2 := (List.all_eq_true.1 h3') r hr
    unfold fitR at hr1
    rw [List.all_eq_true] at hr1 hr2
    have key : ∀ k, k ≤ r.length → ∀ x ∈ listPre w.toNat r k, x.length ≤ maxLen := by
      intro k
      induction k with
      | zero => intro _ x hx; simp [listPre] at hx
      | succ k ih =>
        intro hk x hx
        unfold listPre at hx
        rcases List.mem_append.1 hx with hx | hx
        · exact ih (by omega) x hx
        · have h1 := hr1 k (List.mem_range.2 (by omega))
          rw [List.getD_eq_getElem?_getD, List.getElem?_eq_getElem (by omega), Option.getD_some] at h1 hx
          have := (brk_lines (hr2 _ (List.getElem_mem _)) h1 x hx).1
          unfold maxLen; omega
    exact key _ (Nat.le_refl _)
  · exact nil
theorem lay_same {rows : List Row} {w : Int} (hl : rows.length ≤ 100) (he : ∀ r ∈ rows, ∀ x ∈ r, x.length ≤ 1000) : ∃ r : Res, Am.Fn Try.prog 11 [1, 0, 0] [RWS rows, I w] (resPV .agg r) ∧ Am.Fn Try.prog 12 [1, 0, 0] [RWS rows, I w] (resPV .agg r) ∧ Am.Fn Try.prog 10 [0] [resPV .agg r, resPV .agg r] (.bool true) := by
  obtain ⟨h1, h2⟩ := lay_bound (w := w) hl he
  have h3 := Same_fn (layR rows w) (layR rows w) h1 h2
  rw [sameR_self] at h3
  exact ⟨_, lay_fn rows w hl he, refLay_fn rows w hl he, h3⟩
theorem setRW (rows : List Row) {i : Nat} (hi : i < rows.length) (R : Row) : ∃ Y : List PV, (List.map RW rows).set i (.uslc (List.map CL R)) = Y ∧ (∀ x, x ∈ Y → noRefE x = true) ∧ Y.length = rows.length ∧ List.map frzE Y = List.map RW (rows.set i R) := by
  refine ⟨_, rfl, fun x hx => ?_, by simp, ?_⟩
  · rcases List.mem_or_eq_of_mem_set hx with hx | rfl
    · obtain ⟨r, _, rfl⟩ := List.mem_map.1 hx; rfl
    · rfl
  · rw [List.map_set, List.map_set, List.map_map]
    congr 1
theorem setCL (r : Row) {k : Nat} (hk : k < r.length) (X : Word) : ∃ Y : List PV, (List.map CL r).set k (.uslc (List.map U X)) = Y ∧ (∀ x, x ∈ Y → noRefE x = true) ∧ Y.length = r.length ∧ List.map frzE Y = List.map CL (r.set k X) := by
  refine ⟨_, rfl, fun x hx => ?_, by simp, ?_⟩
  · rcases List.mem_or_eq_of_mem_set hx with hx | rfl
    · obtain ⟨r, _, rfl⟩ := List.mem_map.1 hx; rfl
    · rfl
  · rw [List.map_set, List.map_set, List.map_map]
    congr 1
theorem odd_bound {rows : List Row} (M : Md rows) {i : Nat} {R : Row} (hR : ∀ x ∈ R, x.length ≤ 300) : (rows.set i R).length ≤ 100 ∧ ∀ r ∈ rows.set i R, ∀ x ∈ r, x.length ≤ 1000 := by
  have n4 := M.n4
  refine ⟨by simp; omega, fun r hr x hx => ?_⟩
  rcases List.mem_or_eq_of_mem_set hr with hr | rfl
  · have := M.le r hr x hx; omega
  · have := hR x hx; omega
theorem Matches_fn (cols most : Int) (l : List (List Int)) (w s0 s1 s2 : Int) (hc : 0 ≤ cols ∧ cols ≤ 255) (hm : 0 ≤ most ∧ most ≤ 255) (hl : ∀ x ∈ l, ∀ a ∈ x, 0 ≤ a ∧ a ≤ 255) (hw : 0 ≤ w ∧ w ≤ 255) (h0 : 0 ≤ s0 ∧ s0 ≤ 255) (h1 : 0 ≤ s1 ∧ s1 ≤ 255) (h2 : 0 ≤ s2 ∧ s2 ≤ 255) :
    Am.Fn Try.prog 3 [0] [RawP cols most l, U w, .agg [U s0, U s1, U s2]] (.bool true) := by
  obtain ⟨rows, M, hM⟩ := Made_md cols most l hc hm hl
  obtain ⟨c, w1, w2, w3, w4⟩ := mod_ok hw 44 (by omega)
  have n1 := M.n1
  have n4 := M.n4
  have E := M.ev'
  have n0 : ¬ rows = [] := List.length_pos_iff.1 (by omega)
  obtain ⟨W, hW⟩ : ∃ W : Nat, W = 20 + c := ⟨_, rfl⟩
  have w5 : IntKind.i64.wrap (20 + (c : Int)) = (W : Int) := by rw [wrap_ok (by omega) (by omega)]; omega
  obtain ⟨a, A1, A2, A3⟩ := lay_same (rows := rows) (w := W) (by omega) fun r hr x hx => by have := M.le r hr x hx; omega
  obtain ⟨i, i1, i2, i3, i4⟩ := mod_ok h0 (rows.length : Int) (by omega)
  have d0 : IntKind.i64.wrap s0 = s0 := wrap_ok (by omega) (by omega)
  have d1 : IntKind.i64.wrap s1 = s1 := wrap_ok (by omega) (by omega)
  obtain ⟨t, t1, t2, t3, t4⟩ := mod_ok h1 3 (by omega)
  obtain ⟨z, z1, z2, z3, z4⟩ := mod_ok h2 66 (by omega)
  have hi : i < rows.length := by omega
  have c4 := E.c4
  have c1 := E.c1
  have hri := E.all i hi
  refine fn_introX mixed (X := X3) c3 17 (by simp [X3]) fun Q hR hN => ?_
  simp [X3]
  refine call_of sanity_fn ?_
  simp
  refine call_of hM ?_
  simp [w1, w3, w4, w5]
  refine call_of A1 ?_
  simp
  refine call_of A2 ?_
  simp
  refine call_of A3 ?_
  have m1 : rows.length * 24 ≤ 140737488355328 := by omega
  have m2 : rows[i].length * 24 ≤ 140737488355328 := by omega
  have m3 : (rows[i].length + 1) * 24 ≤ 140737488355328 := by omega
  have hrne : ¬ rows[i] = [] := List.length_pos_iff.1 (by omega)
  have hie : ∀ k (h : k < rows[i].length), rows[i][k].length ≤ 200 := fun k hk => M.le _ (List.getElem_mem hi) _ (List.getElem_mem hk)
  have hfz : List.map (frzE ∘ CL) rows[i] = rows[i].map CL := List.map_congr_left fun r _ => rfl
  by_cases ht : t = 0
  · subst ht
    obtain ⟨R, hRe⟩ : ∃ R : Row, R = rows[i] ++ [[1]] := ⟨_, rfl⟩
    have q1 : List.map CL rows[i] ++ [.slc [.int .u8 1]] = List.map CL R := by rw [hRe]; simp
    have q2 : R.length = rows[i].length + 1 := by rw [hRe]; simp
    obtain ⟨Y, y1, y2, y3, y4⟩ := setRW rows hi R
    obtain ⟨b1, b2⟩ := odd_bound M (i := i) (R := R) fun x hx => by
      rw [hRe] at hx
      rcases List.mem_append.1 hx with hx | hx
      · have := M.le _ (List.getElem_mem hi) x hx; omega
      · rw [List.mem_singleton] at hx; subst hx; simp
    obtain ⟨a', B1, B2, B3⟩ := lay_same (w := W) b1 b2
    have hOl : (rows.set i R).length = rows.length := by simp
    generalize rows.set i R = O at y4 B1 B2 hOl
    have y5 : List.take rows.length (List.map RW O) = List.map RW O := List.take_of_length_le (by simp [hOl])
    have y2' := eq_true y2
    have hf3 : List.map (frzE ∘ RW) O = O.map RW := List.map_congr_left fun r _ => rfl
    have hf2 : List.map (frzE ∘ CL) R = R.map CL := List.map_congr_left fun r _ => rfl
    simp [n0, d0, i1, i4, hi, m1, m2, m3, t1, t3, t4, hfz, q1, q2, y1, y2, y2', y3, y4, y5, hf2, hOl, hf3]
    refine call_of B1 ?_
    simp
    refine call_of B2 ?_
    simp
    refine call_of B3 ?_
    simp
    refine hR _ _ ?_
    simp [X3]
  · have ht' : ¬ (t : Int) = 0 := by omega
    obtain ⟨k, k1, k2, k3, k4⟩ := mod_ok h1 (rows[i].length : Int) (by omega)
    have hk : k < rows[i].length := by omega
    have hkl := hie k hk
    have m4 : rows[i][k].length + 1 ≤ 140737488355328 := by omega
    have m5 : rows[i][k].length ≤ 140737488355328 := by omega
    obtain ⟨X, hX⟩ : ∃ X : Word, X = rows[i][k] ++ [(z : Int)] := ⟨_, rfl⟩
    have q1 : List.map U rows[i][k] ++ [U z] = List.map U X := by rw [hX]; simp
    obtain ⟨V, v1, v2, v3, v4⟩ := setCL rows[i] hk X
    obtain ⟨Y, y1, y2, y3, y4⟩ := setRW rows hi (rows[i].set k X)
    obtain ⟨b1, b2⟩ := odd_bound M (i := i) (R := rows[i].set k X) fun x hx => by
      rcases List.mem_or_eq_of_mem_set hx with hx | rfl
      · have := M.le _ (List.getElem_mem hi) x hx; omega
      · rw [hX]; simp; omega
    obtain ⟨a', B1, B2, B3⟩ := lay_same (w := W) b1 b2
    have q2 : X.length = rows[i][k].length + 1 := by rw [hX]; simp
    have hOl : (rows.set i (rows[i].set k X)).length = rows.length := by simp
    generalize rows.set i (rows[i].set k X) = O at y4 B1 B2 hOl
    have y5 : List.take rows.length (List.map RW O) = List.map RW O := List.take_of_length_le (by simp [hOl])
    have y2' := eq_true y2
    have hf3 : List.map (frzE ∘ RW) O = O.map RW := List.map_congr_left fun r _ => rfl
    have v2' := eq_true v2
    generalize rows[i].set k X = R at v4 y1
    simp [n0, d0, i1, i4, hi, m1, m2, m3, t1, t3, t4, ht, ht', d1, k1, k4, hrne, hk, m4, m5, z1, z3, q1, q2, v1, v2, v3, v4, v2', y1, y2, y2', y3, y4, y5, hOl, hf3]
    refine call_of B1 ?_
    simp
    refine call_of B2 ?_
    simp
    refine call_of B3 ?_
    simp
    refine hR _ _ ?_
    simp [X3]
end Go.Proofs.Ytfpkcjjgooigbaa.C
