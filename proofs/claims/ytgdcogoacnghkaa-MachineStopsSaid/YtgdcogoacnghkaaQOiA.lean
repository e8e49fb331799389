/-
  Chapter 27: without troubles; after a slip.
-/
import Derived.Test.YtgdcogoacnghkaaQOeA
import Derived.Test.YtgdcogoacnghkaaQOhP
namespace Go.Proofs.Ytgdcogoacnghkaa.N
set_option linter.unusedSimpArgs false
set_option linter.unusedVariables false
set_option linter.unusedSectionVars false
open Go.Proofs.Ytgdcogoacnghkaa.Am
set_option maxHeartbeats 4000000
theorem most_ok {n : Int} (hn : b8 n) : ∃ k : Nat, 1 + n % 16 = (k : Int) ∧ 1 ≤ k ∧ k ≤ 64 := by
  obtain ⟨h1, h2⟩ := hn
  exact ⟨(1 + n % 16).toNat, by omega, by omega, by omega⟩
theorem Mad.scan_nil {u d u' d' : List (List Bool)} (m : Mad u d) (m' : Mad u' d') : scanG 48 0 u d u' d' = [] ↔ u = u' ∧ d = d' :=
  N.scan_nil (w := 48) u d u' d' 0 (by rw [m.lu, m'.lu]) (by rw [m.lu, m.ld]) (by rw [m.lu, m'.ld]) m.wu m'.wu m.wd m'.wd
theorem slid_get {d : List (List Bool)} {k i : Nat} (h : k = i + 1) (hk : k < 12) : (slid d)[k]? = d[i]? := by
  subst h
  unfold slid
  rw [List.getElem?_cons_succ, List.getElem?_take, if_pos (by omega)]
theorem GoodLaw_fn (x : List (Int × Int × Int)) (n : Int) (hx : ∀ p ∈ x, t8 p) (hn : b8 n) : Am.Fn Try.prog 4 [0] [.agg [TL x], U8 n] (.bool true) := by
  obtain ⟨u, d, m, hMd⟩ := Made_fn x hx
  have hMo := most_fn n hn
  obtain ⟨k, hk, hk1, hk2⟩ := most_ok hn
  rw [hk] at hMo
  have hM := Make_fn u d k [] [] _ m hk1 hk2 rfl (m.plan hk1 hk2) (by simp) (by simp)
  have hRP := RPlan_fn 48 12 k u d m.valid hk1 hk2
  rw [make_good m hk1 hk2] at hM
  simp only [outG] at hM
  have hZ := Sized_fn 48 12 48 12 u d
  rw [m.gval.1, m.gval.2, decide_eq_true ⟨rfl, rfl⟩] at hZ
  generalize planG 48 k 0 u d = P at hM hRP
  have hG := Good_fn 48 12 u d ⟨48, 12, u, d, P.length, true, []⟩ m.rws.1 m.rws.2
  rw [decide_eq_true ⟨rfl, rfl, rfl, rfl⟩] at hG
  have hSc := Scan_fn u d u d P.length true [] m m
  rw [(m.scan_nil m).2 ⟨rfl, rfl⟩] at hSc
  have hE := REqual_fn 48 12 48 12 u d u d m.rws.1 m.rws.2
  rw [decide_eq_true ⟨rfl, rfl, rfl, rfl⟩] at hE
  obtain ⟨fu, fd⟩ := m.frz
  have lu := m.lu
  have ld := m.ld
  refine fn_introX mixed (X := X4) c4 10 (by simp [X4]) fun Q hR hN => ?_
  simp [X4]
  refine call_of sanity_fn ?_
  simp
  refine call_of hMd ?_
  simp [lu, ld]
  refine call_of hMo ?_
  simp [lu, ld, fu, fd]
  refine call_of hM ?_
  simp [lu, ld, fu, fd]
  refine call_of hMo ?_
  simp [lu, ld, fu, fd]
  refine call_of hRP ?_
  simp [lu, ld, fu, fd]
  refine call_of hZ ?_
  simp [lu, ld, fu, fd]
  refine call_of hG ?_
  simp [lu, ld, fu, fd]
  refine call_of hSc ?_
  simp [lu, ld, fu, fd]
  refine call_of hE ?_
  simp
  refine hR _ _ ?_
  simp [X4]
theorem Slips_fn (x : List (Int × Int × Int)) (n : Int) (hx : ∀ p ∈ x, t8 p) (hn : b8 n) : Am.Fn Try.prog 7 [0] [.agg [TL x], U8 n] (.bool true) := by
  obtain ⟨u, d, m, hMd⟩ := Made_fn x hx
  have hMo := most_fn n hn
  obtain ⟨k, hk, hk1, hk2⟩ := most_ok hn
  rw [hk] at hMo
  have hM := Make_fn u d k [] [⟨2, 0, 0⟩] _ m hk1 hk2 rfl (m.plan hk1 hk2) (by simp) (by simp)
  have mG := makeG_ok u d k [] [⟨2, 0, 0⟩]
  obtain ⟨e1, e2, e3⟩ := make_slip m hk1 hk2
  generalize makeG u d k [] [⟨2, 0, 0⟩] = G at hM mG e1 e2 e3
  obtain ⟨gu, gd, gs, ga, gw, gb⟩ := G
  dsimp only at mG e1 e2 e3
  subst e3
  simp only [outG] at hM
  obtain ⟨fu, fd⟩ := m.frz
  have lu := m.lu
  have ld := m.ld
  obtain ⟨fgu, fgd⟩ := mG.frz
  have glu := mG.lu
  have gld := mG.ld
  have hG := Good_fn 48 12 u d ⟨48, 12, gu, gd, gs, true, gw⟩ mG.rws.1 mG.rws.2
  have hE := REqual_fn 48 12 48 12 gu gd gu gd mG.rws.1 mG.rws.2
  rw [decide_eq_true ⟨rfl, rfl, rfl, rfl⟩] at hE
  have hE2 := REqual_fn 48 12 48 12 u d gu gd m.rws.1 m.rws.2
  have hB := RBlank_fn 48 12 (by omega) (by omega)
  have lB := blank_len 48 12
  have su := m.gu.slid
  have sd := m.gd.slid
  have c0 : Cpy (slid u) 48 1 0 (blankD 48 12) := by
    refine ⟨by rw [su.len]; simp [blankD], wid_blank _ _, fun i hi => ?_, fun x hx => by omega⟩
    obtain rfl : i = 0 := by omega
    simp [slid, blankD]
  have d0 : Cpy (slid d) 48 1 0 (blankD 48 12) := by
    refine ⟨by rw [sd.len]; simp [blankD], wid_blank _ _, fun i hi => ?_, fun x hx => by omega⟩
    obtain rfl : i = 0 := by omega
    simp [slid, blankD]
  generalize blankD 48 12 = B at hB lB c0 d0
  refine fn_introX mixed (X := X7) c7 21 (by simp [X7]) fun Q hR hN => ?_
  simp [X7]
  refine call_of sanity_fn ?_
  simp
  refine call_of hMd ?_
  simp [lu, ld]
  refine call_of hMo ?_
  simp [lu, ld, fu, fd]
  refine call_of hM ?_
  simp [lu, ld, fu, fd, glu, gld]
  refine call_of hB ?_
  simp [lu, ld, lB, glu, gld]
  refine loopX (fun (p : Nat × List (List Bool) × List (List Bool)) vs h' => 1 ≤ p.1 ∧ p.1 ≤ 12 ∧ Cpy (slid u) 48 p.1 0 p.2.1 ∧ Cpy (slid d) 48 p.1 0 p.2.2 ∧ vs = [.undef, .undef, .undef, .undef, .bool true, .ptr 11 1 0, .ptr 12 1 0, I 0, .ptr 13 1 0, I p.1, .undef, .undef, .undef] ∧
    h' = [dd, dd, dd, dd, dd, dd, dd, dd, dd, dd, dd, (1, .var [I 48, I 12, .own 14 1 12 1 0 12, .own 15 1 12 1 0 12]), (1, .var [I 48, I 12, .own 16 1 12 1 0 12, .own 17 1 12 1 0 12, I gs, .bool true, .own 18 1 gw.length 1 0 gw.length]), (1, .var [I 48, I 12, .own 19 1 12 1 0 12, .own 20 1 12 1 0 12]), dRow u, dRow d, dRow gu, dRow gd, wRow gw, dRow p.2.1, dRow p.2.2]) (fun p => 12 - p.1) (1, B, B) ?_ ?_
  · simp [c0, d0, glu, gld]
  · rintro ⟨k, U, V⟩ vs h' ⟨h0, h1, h2, h3, rfl, rfl⟩ Q' hK hX hR'
    dsimp only at h0 h1 h2 h3
    have lU : U.length = 12 := by rw [h2.len, su.len]
    have lV : V.length = 12 := by rw [h3.len, sd.len]
    by_cases hk : k < 12
    · have hk' : (k : Int) < 12 := by omega
      simp [hk']
      refine loopX (fun (p : Nat × List (List Bool) × List (List Bool)) vs h' => p.1 ≤ 48 ∧ Cpy (slid u) 48 k p.1 p.2.1 ∧ Cpy (slid d) 48 k p.1 p.2.2 ∧ vs = [.undef, .undef, .undef, .undef, .bool true, .ptr 11 1 0, .ptr 12 1 0, I 0, .ptr 13 1 0, I k, I p.1, .undef, .undef] ∧
        h' = [dd, dd, dd, dd, dd, dd, dd, dd, dd, dd, dd, (1, .var [I 48, I 12, .own 14 1 12 1 0 12, .own 15 1 12 1 0 12]), (1, .var [I 48, I 12, .own 16 1 12 1 0 12, .own 17 1 12 1 0 12, I gs, .bool true, .own 18 1 gw.length 1 0 gw.length]), (1, .var [I 48, I 12, .own 19 1 12 1 0 12, .own 20 1 12 1 0 12]), dRow u, dRow d, dRow gu, dRow gd, wRow gw, dRow p.2.1, dRow p.2.2]) (fun p => 48 - p.1) (0, U, V) ?_ ?_
      · simp [h2, h3, lu, ld, glu, gld, lU, lV]
      · rintro ⟨j, U2, V2⟩ vs h' ⟨g1, g2, g3, rfl, rfl⟩ Q2 hK2 hX2 hR2
        dsimp only at g1 g2 g3
        have lU : U2.length = 12 := by rw [g2.len, su.len]
        have lV : V2.length = 12 := by rw [g3.len, sd.len]
        obtain ⟨i, hki⟩ : ∃ i, k = i + 1 := ⟨k - 1, by omega⟩
        have hw4 : IntKind.i64.wrap ((k : Int) - 1) = (i : Int) := (wrap_ok (by omega) (by omega)).trans (by omega)
        have hi1 : i < 12 := by omega
        have hi2 : (i : Int) < 12 := by omega
        have hkU : k < U2.length := by omega
        have hkV : k < V2.length := by omega
        have hku : i < u.length := by omega
        have hkd : i < d.length := by omega
        have wU := wid_get g2.wid hkU
        have wV := wid_get g3.wid hkV
        have wuk := wid_get m.wu hku
        have wdk := wid_get m.wd hkd
        by_cases hj : j < 48
        · have hj' : (j : Int) < 48 := by omega
          have hw2 : IntKind.i64.wrap ((j : Int) + 1) = ((j + 1 : Nat) : Int) := wrap_ok (by omega) (by omega)
          have hju : j < u[i].length := by omega
          have hjd : j < d[i].length := by omega
          have hks : k < (slid u).length := by rw [su.len]; exact hk
          have hkt : k < (slid d).length := by rw [sd.len]; exact hk
          have e1 : (slid u)[k] = u[i] := by have := slid_get (d := u) hki hk; rw [List.getElem?_eq_getElem hks, List.getElem?_eq_getElem hku, Option.some.injEq] at this; exact this
          have e2 : (slid d)[k] = d[i] := by have := slid_get (d := d) hki hk; rw [List.getElem?_eq_getElem hkt, List.getElem?_eq_getElem hkd, Option.some.injEq] at this; exact this
          have s1 := g2.step su.wid hks hj (hkU := hkU) (by rw [e1]; exact List.getElem?_eq_getElem hju)
          have s2 := g3.step sd.wid hkt hj (hkU := hkV) (by rw [e2]; exact List.getElem?_eq_getElem hjd)
          simp [hk, hk', hj, hj', lu, ld, lU, lV, hkU, hkV, wU, wV, hku, hkd, hi1, hi2, wuk, wdk, hju, hjd, hw2, hw4]
          rw [uw_set, uw_set]
          generalize U2.set k (U2[k].set j u[i][j]) = U3 at s1
          generalize V2.set k (V2[k].set j d[i][j]) = V3 at s2
          have l3 : U3.length = 12 := by rw [s1.len, su.len]
          have l4 : V3.length = 12 := by rw [s2.len, sd.len]
          refine hK2 (j + 1, U3, V3) _ _ (by dsimp only; omega) ?_
          simp [s1, s2, lu, ld, glu, gld, l3, l4]
          omega
        · obtain rfl : j = 48 := by omega
          have hw1 : IntKind.i64.wrap ((k : Int) + 1) = ((k + 1 : Nat) : Int) := wrap_ok (by omega) (by omega)
          simp
          refine hX2 _ _ _ ?_
          simp [hw1]
          refine hK (k + 1, U2, V2) _ _ (by dsimp only; omega) ?_
          simp [lu, ld, glu, gld, lU, lV]
          exact ⟨by omega, g2.row su.wid (by rw [su.len]; exact hk), g3.row sd.wid (by rw [sd.len]; exact hk)⟩
    · obtain rfl : k = 12 := by omega
      have q1 := h2.done' su.len
      have q2 := h3.done' sd.len
      rw [← e1] at q1; rw [← e2] at q2
      subst q1 q2
      simp [hk]
      refine hX _ _ _ ?_
      simp [glu, gld, fgu, fgd, lu, ld, fu, fd]
      refine call_of hE ?_
      simp [glu, gld, fgu, fgd, lu, ld, fu, fd]
      refine call_of hG ?_
      simp [glu, gld, fgu, fgd, lu, ld, fu, fd]
      refine call_of hE2 ?_
      have hc : (decide (u = U) && decide (d = V)) = (decide (U = u) && decide (V = d)) := by congr 1 <;> exact decide_eq_decide.2 eq_comm
      simp [hc]
      refine hR _ _ ?_
      simp [X7]
end Go.Proofs.Ytgdcogoacnghkaa.N
