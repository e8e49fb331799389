/-
  Chapter 26: the fixed examples.
-/
import Derived.Test.YtalgbgeocpbadaaQKoA
import Derived.Test.YtalgbgeocpbadaaQKrX
namespace Go.Proofs.Ytalgbgeocpbadaa.K
set_option linter.unusedSimpArgs false
set_option linter.unusedVariables false
set_option linter.unusedSectionVars false
open Go.Proofs.Ytalgbgeocpbadaa.Am
set_option maxHeartbeats 4000000
theorem Mad.valid {w h : Nat} {u d : List (List Bool)} (m : Mad w h u d) : validB w h u d = true := by
  obtain ⟨w0, w1, w2, h0, h1, h2, lu, ld, wu, wd⟩ := m
  simp only [validB, sizeB, filled, Bool.and_eq_true, decide_eq_true_eq, Bool.not_eq_true', decide_eq_false_iff_not, List.all_eq_true]
  rw [Int.tdiv_eq_ediv_of_nonneg (by omega), Int.tdiv_eq_ediv_of_nonneg (by omega), Int.tmod_eq_emod_of_nonneg (by omega), Int.tmod_eq_emod_of_nonneg (by omega)]
  refine ⟨⟨⟨⟨⟨⟨⟨by omega, by omega⟩, by omega⟩, by omega⟩, by omega⟩, by omega⟩, by omega, fun r hr => ?_⟩, by omega, fun r hr => ?_⟩
  · rw [wu r hr]
  · rw [wd r hr]
theorem frz_rw (B : List (List Bool)) : List.take B.length (List.map (frzE ∘ RW) B) = B.map RW := by
  rw [show List.map (frzE ∘ RW) B = B.map RW from List.map_congr_left fun r _ => rfl, List.take_of_length_le (by simp)]
theorem frz_stC (P : List Stk) : List.take P.length (List.map (frzE ∘ stC) P) = P.map stC := by
  rw [show List.map (frzE ∘ stC) P = P.map stC from List.map_congr_left fun r _ => rfl, List.take_of_length_le (by simp)]
theorem frz_stU (P : List Stk) : List.take P.length (List.map (frzE ∘ stU) P) = P.map stC := by
  rw [show List.map (frzE ∘ stU) P = P.map stC from List.map_congr_left fun r _ => rfl, List.take_of_length_le (by simp)]
theorem struck_sub (y : Int) (w : Nat) (l : List Int) : (struck y w l).up.length ≤ l.length ∧ (struck y w l).down.length ≤ l.length := struck_len y w l
theorem chunkG_mem {α : Type} {n : Nat} : ∀ (f : Nat) (l : List α) (c : List α), c ∈ chunkG n f l → c.length ≤ n
  | 0, l, c, h => by simp [chunkG] at h
  | f + 1, l, c, h => by
    simp only [chunkG] at h
    split at h
    · simp at h
    · rcases List.mem_cons.1 h with rfl | h
      · rw [List.length_take]; omega
      · exact chunkG_mem f _ c h
theorem planRow_sks {w n y : Nat} {u d : List Bool} : ∀ s ∈ planRow w n y u d, s.up.length ≤ n ∧ s.down.length ≤ n := fun s hs => by
  obtain ⟨c, hc, rfl⟩ := List.mem_map.1 hs
  have h1 := chunkG_mem _ _ _ hc
  have h2 := struck_len y w c
  omega
theorem planG_sks {w n : Nat} : ∀ {u d : List (List Bool)} {y : Nat}, ∀ s ∈ planG w n y u d, s.up.length ≤ n ∧ s.down.length ≤ n
  | u :: us, d :: ds, y, s, h => by
    rcases List.mem_append.1 h with h | h
    · exact planRow_sks s h
    · exact planG_sks s h
  | [], _, _, s, h => by simp [planG] at h
  | _ :: _, [], _, s, h => by simp [planG] at h
theorem planG_len {w n : Nat} (hn : 1 ≤ n) : ∀ {u d : List (List Bool)} {y : Nat}, (∀ r ∈ u, r.length = w) → (∀ r ∈ d, r.length = w) → (planG w n y u d).length ≤ u.length * (2 * w)
  | u :: us, d :: ds, y, hu, hd => by
    have h1 := planG_len hn (u := us) (d := ds) (y := y + 1) (fun r hr => hu r (List.mem_cons_of_mem _ hr)) fun r hr => hd r (List.mem_cons_of_mem _ hr)
    have h2 := cols_len (hu u List.mem_cons_self) (hd d List.mem_cons_self)
    have h3 := chunk_len hn (cols w u d)
    simp only [planG, planRow, List.length_append, List.length_map, List.length_cons]
    rw [Nat.succ_mul]
    omega
  | [], _, _, _, _ => by simp [planG]
  | _ :: _, [], _, _, _ => by simp [planG]
theorem plan_sks {w h n : Nat} {u d : List (List Bool)} (hv : validB w h u d = true) (hn : 1 ≤ n) (hn2 : n ≤ 64) : Sks (planG w n 0 u d) := by
  obtain ⟨hu, hd, hru, hrd, hw0, hw, hh0, hh, _⟩ := valid_spec hv
  refine ⟨?_, fun s hs => ?_⟩
  · have h1 := planG_len hn (y := 0) hru hrd
    have h2 : u.length * (2 * w) ≤ 122 * 242 := Nat.mul_le_mul (by omega) (by omega)
    omega
  · have := planG_sks s hs; omega
theorem sanity_fn : Am.Fn Try.prog 8 [0] [] (.bool true) := by
  have hB := Blank_fn 48 12 (by omega) (by omega)
  have lB := blank_len 48 12
  have wB := wid_blank 48 12
  obtain ⟨B, hBB⟩ : ∃ B, B = blankD 48 12 := ⟨_, rfl⟩
  rw [← hBB] at hB lB wB
  have w0 : B[0].length = 48 := wid_get wB (by omega)
  have w2 : B[2].length = 48 := wid_get wB (by omega)
  obtain ⟨uu, huu⟩ : ∃ uu, uu = B.set 0 ((B[0].set 0 true).set 2 true) := ⟨_, rfl⟩
  obtain ⟨vv, hvv⟩ : ∃ vv, vv = (B.set 0 (B[0].set 1 true)).set 2 (B[2].set 3 true) := ⟨_, rfl⟩
  have k1 : (List.map UW B).set 0 (PV.uslc (((List.map PV.bool B[0]).set 0 (PV.bool true)).set 2 (PV.bool true))) = uu.map UW := by rw [huu, List.map_set, UW, List.map_set, List.map_set]
  have k2 : ((List.map UW B).set 0 (PV.uslc ((List.map PV.bool B[0]).set 1 (PV.bool true)))).set 2 (PV.uslc ((List.map PV.bool B[2]).set 3 (PV.bool true))) = vv.map UW := by rw [hvv, List.map_set, List.map_set, UW, UW, List.map_set, List.map_set]
  have u1 : uu = (List.replicate 48 false |>.set 0 true |>.set 2 true) :: List.replicate 11 (List.replicate 48 false) := by subst hBB; rw [huu]; rfl
  have v1 : vv = (List.replicate 48 false |>.set 1 true) :: List.replicate 48 false :: (List.replicate 48 false |>.set 3 true) :: List.replicate 9 (List.replicate 48 false) := by subst hBB; rw [hvv]; rfl
  have lu : uu.length = 12 := by rw [u1]; rfl
  have lv : vv.length = 12 := by rw [v1]; rfl
  have hv : validB 48 12 uu vv = true := by rw [u1, v1]; decide +kernel
  have p2 : planG 48 2 0 uu vv = [⟨0, [0, 2], []⟩, ⟨0, [], [1]⟩, ⟨2, [], [3]⟩] := by rw [u1, v1]; decide +kernel
  have p3 : planG 48 3 0 uu vv = [⟨0, [0, 2], [1]⟩, ⟨2, [], [3]⟩] := by rw [u1, v1]; decide +kernel
  have P2 := Plan_fn 48 12 2 uu vv hv (by omega) (by omega)
  have P3 := Plan_fn 48 12 3 uu vv hv (by omega) (by omega)
  rw [p2] at P2
  rw [p3] at P3
  have o1 : applyO 48 12 [⟨2, [], [3]⟩, ⟨12, [], []⟩] = ⟨0, 0, [], [], 1, 270⟩ := by kernel_rfl
  have o2 : applyO 48 12 [⟨0, [1, 1], []⟩] = ⟨0, 0, [], [], 0, 270⟩ := by kernel_rfl
  have o3 : applyO (-1) 12 [] = ⟨0, 0, [], [], 0, 1⟩ := by kernel_rfl
  have o4 : applyO 48 12 [⟨0, [0, 2], [1]⟩, ⟨2, [], [3]⟩] = ⟨48, 12, uu, vv, 2, 0⟩ := by rw [u1, v1]; kernel_rfl
  have A1 := apply_fn 48 12 [⟨2, [], [3]⟩, ⟨12, [], []⟩] ⟨by simp, by simp⟩
  have A2 := apply_fn 48 12 [⟨0, [1, 1], []⟩] ⟨by simp, by simp⟩
  have A3 := apply_fn (-1) 12 [] ⟨by simp, by simp⟩
  have A4 := apply_fn 48 12 [⟨0, [0, 2], [1]⟩, ⟨2, [], [3]⟩] ⟨by simp, by simp⟩
  rw [o1] at A1; rw [o2] at A2; rw [o3] at A3; rw [o4] at A4
  have S1 := Same_fn [⟨0, [0, 2], []⟩, ⟨0, [], [1]⟩, ⟨2, [], [3]⟩] [⟨0, [0, 2], []⟩, ⟨0, [], [1]⟩, ⟨2, [], [3]⟩] ⟨by simp, by simp⟩
  have S2 := Same_fn [⟨0, [0, 2], [1]⟩, ⟨2, [], [3]⟩] [⟨0, [0, 2], [1]⟩, ⟨2, [], [3]⟩] ⟨by simp, by simp⟩
  rw [decide_eq_true rfl] at S1 S2
  have rE : Rws [] := ⟨by simp, by simp⟩
  have ru : Rws uu := by rw [u1]; exact ⟨by decide, by decide +kernel⟩
  have rv : Rws vv := by rw [v1]; exact ⟨by decide, by decide +kernel⟩
  have R1 := SameResult_fn 0 0 0 0 1 270 1 270 [] [] [] [] rE rE
  have R2 := SameResult_fn 0 0 0 0 0 270 0 270 [] [] [] [] rE rE
  have R3 := SameResult_fn 0 0 0 0 0 1 0 1 [] [] [] [] rE rE
  have R4 := SameResult_fn 48 12 48 12 2 0 2 0 uu vv uu vv ru rv
  rw [decide_eq_true ⟨rfl, rfl, rfl, rfl, rfl, rfl⟩] at R1 R2 R3 R4
  have D4 := Dots_fn 48 12 uu vv (by omega) (by omega) (by rw [u1]; decide +kernel) (by rw [v1]; decide +kernel)
  have cd : cntD uu + cntD vv = 4 := by rw [u1, v1]; decide +kernel
  rw [cd] at D4
  have PP := Plan_plate 1 0 2 [] [] (by omega) (by omega) (by simp) (by simp) (by omega) (by omega) (by decide +kernel)
  clear hBB huu hvv
  refine fn_introX mixed (X := X8) c8 17 (by simp [X8]) fun Q hR hN => ?_
  simp [X8]
  refine call_of hB ?_
  simp [lB, w0, w2, k1, k2, lu, lv, frz_uw]
  refine call_of P2 ?_
  simp
  refine call_of P3 ?_
  simp
  refine call_of (Plan_arg 48 12 0 uu vv (by omega)) ?_
  simp
  refine call_of (Plan_arg 48 12 65 uu vv (by omega)) ?_
  simp
  refine call_of PP ?_
  simp
  refine call_of S1 ?_
  simp
  refine call_of S2 ?_
  simp
  refine call_of A1 ?_
  simp
  refine call_of R1 ?_
  simp
  refine call_of A2 ?_
  simp
  refine call_of R2 ?_
  simp
  refine call_of A3 ?_
  simp
  refine call_of R3 ?_
  simp
  refine call_of D4 ?_
  simp
  refine call_of A4 ?_
  have fu : List.take 12 (List.map (frzE ∘ UW) uu) = uu.map RW := by rw [← lu]; exact frz_take uu
  have fv : List.take 12 (List.map (frzE ∘ UW) vv) = vv.map RW := by rw [← lv]; exact frz_take vv
  simp [lu, lv, fu, fv]
  refine call_of R4 ?_
  simp
  refine hR _ _ ?_
  simp [X8]
end Go.Proofs.Ytalgbgeocpbadaa.K
