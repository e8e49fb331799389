/-
  Chapter 27: worn pins.
-/
import Derived.Test.YtgdcogoacnghkaaQOiA
namespace Go.Proofs.Ytgdcogoacnghkaa.N
set_option linter.unusedSimpArgs false
set_option linter.unusedVariables false
set_option linter.unusedSectionVars false
open Go.Proofs.Ytgdcogoacnghkaa.Am
set_option maxHeartbeats 4000000
theorem wo_wo {off : Nat} {w : List Int} {u : List (List Bool)} : (u.map (wo off w)).map (wo off w) = u.map (wo off w) := by
  rw [List.map_map]
  refine List.map_congr_left fun r _ => ?_
  refine List.ext_getElem (by simp [wo]) fun j h1 h2 => ?_
  simp only [Function.comp, wo, List.getElem_mapIdx, Bool.and_assoc, Bool.and_self]
theorem Mad.wo {u d : List (List Bool)} (m : Mad u d) (w : List Int) : Mad (u.map (wo 0 w)) (d.map (wo 48 w)) := ⟨by simpa using m.lu, by simpa using m.ld, wo_wid m.wu, wo_wid m.wd⟩
theorem wears_snoc {w : List Int} {k : Nat} (h : k < w.length) : wears (w.take (k + 1)) = wears (w.take k) ++ [⟨3, 0, w[k]⟩] := by
  unfold wears; rw [take_snoc h, List.map_append]; rfl
theorem Worn_fn (x : List (Int × Int × Int)) (w : List Int) (n : Int) (hx : ∀ p ∈ x, t8 p) (hw : ∀ n ∈ w, b8 n) (hn : b8 n) : Am.Fn Try.prog 6 [0] [.agg [TL x], UL w, U8 n] (.bool true) := by
  obtain ⟨u, d, m, hMd⟩ := Made_fn x hx
  have hP := Pins_fn w hw
  have pl := pins_len w
  generalize (w.take 4).map (· % 100 - 2) = ws at hP pl
  have hMo := most_fn n hn
  obtain ⟨k, hk, hk1, hk2⟩ := most_ok hn
  rw [hk] at hMo
  have mR := m.wo ws
  have hWo := Without_fn 48 12 u d ws (by omega) (by omega) m.lu m.ld m.wu m.wd (by omega)
  have lw : (wears ws).length ≤ 10 := by simpa [wears] using pl
  have hM1 := Make_fn u d k ws [] _ m hk1 hk2 rfl (m.plan hk1 hk2) pl (by simp)
  have hM2 := Make_fn (u.map (wo 0 ws)) (d.map (wo 48 ws)) k ws [] _ mR hk1 hk2 rfl (mR.plan hk1 hk2) pl (by simp)
  have hM3 := Make_fn u d k [] (wears ws) _ m hk1 hk2 rfl (m.plan hk1 hk2) (by simp) lw
  rw [make_worn m hk1 hk2] at hM1
  rw [make_worn mR hk1 hk2, wo_wo, wo_wo] at hM2
  obtain ⟨e1, e2⟩ := make_wears m hk1 hk2 ws
  generalize makeG u d k [] (wears ws) = G at hM3 e1 e2
  obtain ⟨gu, gd, gs, ga, gw, gb⟩ := G
  dsimp only at e1 e2
  rw [← e1, ← e2] at hM1 hM2 hWo mR
  clear e1 e2
  simp only [outG] at hM1 hM2 hM3
  generalize (planG 48 k 0 u d).length = n1 at hM1
  generalize (planG 48 k 0 gu gd).length = n2 at hM2
  obtain ⟨fu, fd⟩ := m.frz
  obtain ⟨fgu, fgd⟩ := mR.frz
  have lu := m.lu
  have ld := m.ld
  have glu := mR.lu
  have gld := mR.ld
  have hZ := Sized_fn 48 12 48 12 gu gd
  rw [mR.gval.1, mR.gval.2, decide_eq_true ⟨rfl, rfl⟩] at hZ
  have hE := REqual_fn 48 12 48 12 gu gd gu gd mR.rws.1 mR.rws.2
  rw [decide_eq_true ⟨rfl, rfl, rfl, rfl⟩] at hE
  have hE2 := REqual_fn 48 12 48 12 u d gu gd m.rws.1 m.rws.2
  have hG1 := Good_fn 48 12 gu gd ⟨48, 12, gu, gd, n2, true, ws⟩ mR.rws.1 mR.rws.2
  rw [decide_eq_true ⟨rfl, rfl, rfl, rfl⟩] at hG1
  have hG2 := Good_fn 48 12 u d ⟨48, 12, gu, gd, n1, true, ws⟩ mR.rws.1 mR.rws.2
  have hc : (decide (u = gu) && decide (d = gd)) = (decide (gu = u) && decide (gd = d)) := by congr 1 <;> exact decide_eq_decide.2 eq_comm
  refine fn_introX mixed (X := X6) c6 39 (by simp [X6]) fun Q hR hN => ?_
  simp [X6]
  refine call_of sanity_fn ?_
  simp
  refine call_of hMd ?_
  simp [lu, ld]
  refine call_of hP ?_
  simp [lu, ld, fu, fd]
  refine call_of hWo ?_
  simp [lu, ld, fu, fd, glu, gld]
  refine call_of hMo ?_
  simp [lu, ld, fu, fd, glu, gld]
  refine call_of hM1 ?_
  simp [lu, ld, fu, fd, glu, gld, fgu, fgd]
  refine call_of hMo ?_
  simp [lu, ld, fu, fd, glu, gld, fgu, fgd]
  refine call_of hM2 ?_
  simp [lu, ld, fu, fd, glu, gld, fgu, fgd]
  refine loopX (fun (p : Nat × List Tr) vs h' => p.1 ≤ ws.length ∧ p.2 = wears (ws.take p.1) ∧ vs = [.undef, .undef, U8 n, .undef, .undef, .bool true, .ptr 23 1 0, .own 24 1 ws.length 1 0 ws.length, .ptr 25 1 0, .ptr 26 1 0, I 0, .ptr 27 1 0, I 0, .own 28 1 p.2.length 3 0 p.2.length, I p.1, .undef, .undef, .undef, .undef] ∧
    h' = [dd, dd, dd, dd, dd, dd, dd, dd, dd, dd, dd, dd, dd, dd, dd, dd, dd, dd, dd, dd, dd, dd, dd, (1, .var [I 48, I 12, .own 29 1 12 1 0 12, .own 30 1 12 1 0 12]), wRow ws, (1, .var [I 48, I 12, .own 31 1 12 1 0 12, .own 32 1 12 1 0 12]), (1, .var [I 48, I 12, .own 33 1 12 1 0 12, .own 34 1 12 1 0 12, I n1, .bool true, .own 35 1 ws.length 1 0 ws.length]), (1, .var [I 48, I 12, .own 36 1 12 1 0 12, .own 37 1 12 1 0 12, I n2, .bool true, .own 38 1 ws.length 1 0 ws.length]), (1, .arr 3 0 false (p.2.map trC)), dRow u, dRow d, dRow gu, dRow gd, dRow gu, dRow gd, wRow ws, dRow gu, dRow gd, wRow ws]) (fun p => ws.length - p.1) (0, []) ?_ ?_
  · simp [wears, glu, gld]
  · rintro ⟨j, T⟩ vs h' ⟨h1, h2, rfl, rfl⟩ Q' hK hX hR'
    dsimp only at h1 h2
    have lT : T.length ≤ 10 := by rw [h2]; simp [wears]; omega
    by_cases hj : j < ws.length
    · have hw1 : IntKind.i64.wrap ((j : Int) + 1) = ((j + 1 : Nat) : Int) := wrap_ok (by omega) (by omega)
      have hcap : (T.length + 1) * 24 ≤ 140737488355328 := by omega
      have hs := wears_snoc hj
      rw [← h2] at hs
      simp [hj, hw1, hcap]
      refine hK (j + 1, T ++ [⟨3, 0, ws[j]⟩]) _ _ (by dsimp only; omega) ?_
      simp [lu, ld, glu, gld, hs]
      omega
    · rw [List.take_of_length_le (by omega)] at h2
      subst h2
      simp [hj]
      refine hX _ _ _ ?_
      simp [lu, ld, fu, fd, glu, gld]
      refine call_of hMo ?_
      simp [lu, ld, fu, fd, glu, gld]
      refine call_of hM3 ?_
      simp [lu, ld, fu, fd, glu, gld, fgu, fgd]
      refine call_of hZ ?_
      simp [lu, ld, fu, fd, glu, gld, fgu, fgd]
      refine call_of hE ?_
      simp [lu, ld, fu, fd, glu, gld, fgu, fgd]
      refine call_of hG1 ?_
      simp [lu, ld, fu, fd, glu, gld, fgu, fgd]
      refine call_of hG2 ?_
      simp [lu, ld, fu, fd, glu, gld, fgu, fgd]
      refine call_of hE2 ?_
      simp [lu, ld, fu, fd, glu, gld, fgu, fgd, hc]
      refine call_of hE ?_
      simp
      refine hR _ _ ?_
      simp [X6]
end Go.Proofs.Ytgdcogoacnghkaa.N
