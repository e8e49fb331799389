/-
  Chapter 27: what scanning finds, and when a sheet is good.
-/
import Derived.Test.YtgdcogoacnghkaaQOiA
namespace Go.Proofs.Ytgdcogoacnghkaa.N
set_option linter.unusedSimpArgs false
set_option linter.unusedVariables false
set_option linter.unusedSectionVars false
open Go.Proofs.Ytgdcogoacnghkaa.Am
set_option maxHeartbeats 4000000
/-- a place that is found -/
def Fnd (u d u' d' : List (List Bool)) (q : Int × Int) : Prop := ∃ y x : Nat, y < 12 ∧ x < 48 ∧ ((q = ((x : Int), (y : Int)) ∧ cell u y x ≠ cell u' y x) ∨ (q = (((48 + x : Nat) : Int), (y : Int)) ∧ cell d y x ≠ cell d' y x))
theorem Mad.found {u d u' d' : List (List Bool)} (m : Mad u d) (m' : Mad u' d') {q : Int × Int} (h : q ∈ scanG 48 0 u d u' d') : Fnd u d u' d' q := by
  have key : ∀ {a b : List (List Bool)} (ga : G48 a) (gb : G48 b) {j i : Nat} {ra rb : List Bool} {p r : Bool}, a[j]? = some ra → b[j]? = some rb → ra[i]? = some p → rb[i]? = some r → p ≠ r → j < 12 ∧ i < 48 ∧ cell a j i ≠ cell b j i := by
    intro a b ga gb j i ra rb p r h1 h2 h3 h4 h5
    obtain ⟨a1, rfl⟩ := List.getElem?_eq_some_iff.1 h1
    obtain ⟨a2, rfl⟩ := List.getElem?_eq_some_iff.1 h2
    obtain ⟨a3, rfl⟩ := List.getElem?_eq_some_iff.1 h3
    obtain ⟨a4, rfl⟩ := List.getElem?_eq_some_iff.1 h4
    have w1 := wid_get ga.wid a1
    refine ⟨by rw [← ga.len]; exact a1, by omega, ?_⟩
    rw [cell_get a1 a3, cell_get a2 a4]; exact h5
  obtain ⟨j, i, ⟨e, a, b, p, r, h1, h2, h3, h4, h5⟩ | ⟨e, a, b, p, r, h1, h2, h3, h4, h5⟩⟩ := scan_mem (w := 48) _ _ _ _ _ _ h
  · obtain ⟨k1, k2, k3⟩ := key m.gu m'.gu h1 h2 h3 h4 h5
    exact ⟨j, i, k1, k2, .inl ⟨by rw [e, Nat.zero_add], k3⟩⟩
  · obtain ⟨k1, k2, k3⟩ := key m.gd m'.gd h1 h2 h3 h4 h5
    exact ⟨j, i, k1, k2, .inr ⟨by rw [e, Nat.zero_add], k3⟩⟩
set_option maxRecDepth 100000 in
theorem Scans_fn (x l : List (Int × Int × Int)) (w : List Int) (hx : ∀ p ∈ x, t8 p) (hl : ∀ p ∈ l, t8 p) (hw : ∀ n ∈ w, b8 n) (hll : l.length ≤ maxLen) : Am.Fn Try.prog 8 [0] [.agg [TL x], TL l, UL w] (.bool true) := by
  obtain ⟨u, d, m, hMd⟩ := Made_fn x hx
  have hP := Pins_fn w hw
  have hT := Troubles_fn l hl
  have pl := pins_len w
  have tl := trs_len l
  generalize (w.take 4).map (· % 100 - 2) = ws at hP pl
  generalize (l.take 5).map trOf = ts at hT tl
  obtain ⟨n8, hn8, hb8⟩ : ∃ n8, IntKind.u8.wrap (l.length : Int) = n8 ∧ b8 n8 := by
    refine ⟨_, rfl, ?_⟩
    simp only [b8, IntKind.wrap, IntKind.signed, IntKind.bits]
    constructor
    · simp; omega
    · simp; omega
  have hMo := most_fn n8 hb8
  obtain ⟨k, hk, hk1, hk2⟩ := most_ok hb8
  rw [hk] at hMo
  have hM := Make_fn u d k ws ts _ m hk1 hk2 rfl (m.plan hk1 hk2) pl tl
  have mG := makeG_ok u d k ws ts
  generalize makeG u d k ws ts = G at hM mG
  obtain ⟨gu, gd, gs, ga, gw, gb⟩ := G
  dsimp only at mG
  simp only [outG] at hM
  obtain ⟨fu, fd⟩ := m.frz
  obtain ⟨fgu, fgd⟩ := mG.frz
  have lu := m.lu
  have ld := m.ld
  have glu := mG.lu
  have gld := mG.ld
  have hZ := Sized_fn 48 12 48 12 gu gd
  rw [mG.gval.1, mG.gval.2, decide_eq_true ⟨rfl, rfl⟩] at hZ
  have hSc := Scan_fn u d gu gd gs (!gb) gw m mG
  have hG := Good_fn 48 12 u d ⟨48, 12, gu, gd, gs, !gb, gw⟩ mG.rws.1 mG.rws.2
  have hE := REqual_fn 48 12 48 12 u d gu gd m.rws.1 m.rws.2
  have hlen := m.scan gu gd
  have hnil := m.scan_nil mG
  have hpw := scan_pw (w := 48) u d gu gd 0 m.wu
  have hfd := fun q hq => m.found mG (q := q) hq
  generalize scanG 48 0 u d gu gd = F at hSc hlen hnil hpw hfd
  have e96 : IntKind.i64.wrap 96 = 96 := wrap_ok (by omega) (by omega)
  refine fn_introX mixed (X := X8) c8 20 (by simp [X8]) fun Q hR hN => ?_
  simp [X8]
  refine call_of sanity_fn ?_
  simp
  refine call_of hMd ?_
  simp [lu, ld, hn8]
  refine call_of hMo ?_
  simp [lu, ld]
  refine call_of hP ?_
  simp [lu, ld]
  refine call_of hT ?_
  simp [lu, ld, fu, fd]
  refine call_of hM ?_
  simp [lu, ld, fu, fd, glu, gld, fgu, fgd]
  refine call_of hZ ?_
  simp [lu, ld, fu, fd, glu, gld, fgu, fgd]
  refine call_of hSc ?_
  simp [lu, ld, fu, fd, glu, gld, fgu, fgd]
  refine loopX (fun (n : Nat) vs h' => n ≤ F.length ∧ vs = [.undef, .undef, .undef, .undef, .undef, .bool true, .ptr 12 1 0, .ptr 13 1 0, .undef, .own 14 1 F.length 2 0 F.length, I n, .undef, .undef, .undef, .undef, .undef] ∧
    h' = [dd, dd, dd, dd, dd, dd, dd, dd, dd, dd, dd, dd, (1, .var [I 48, I 12, .own 15 1 12 1 0 12, .own 16 1 12 1 0 12]), (1, .var [I 48, I 12, .own 17 1 12 1 0 12, .own 18 1 12 1 0 12, I gs, .bool (!gb), .own 19 1 gw.length 1 0 gw.length]), (1, .arr 2 0 false (F.map PT2)), dRow u, dRow d, dRow gu, dRow gd, wRow gw]) (fun n => F.length - n) 0 ?_ ?_
  · simp [glu, gld, lu, ld]
  · rintro n vs h' ⟨h1, rfl, rfl⟩ Q' hK hX hR'
    by_cases hn : n < F.length
    · have hw1 : IntKind.i64.wrap ((n : Int) + 1) = ((n + 1 : Nat) : Int) := wrap_ok (by omega) (by omega)
      obtain ⟨y, z, hy, hz, hq⟩ := hfd _ (List.getElem_mem hn)
      have hyu : y < u.length := by omega
      have hyd : y < d.length := by omega
      have hygu : y < gu.length := by omega
      have hygd : y < gd.length := by omega
      have w1 := wid_get m.wu hyu
      have w2 := wid_get m.wd hyd
      have w3 := wid_get mG.wu hygu
      have w4 := wid_get mG.wd hygd
      have hzu : z < u[y].length := by omega
      have hzd : z < d[y].length := by omega
      have hzgu : z < gu[y].length := by omega
      have hzgd : z < gd[y].length := by omega
      have y1 : ¬ (y : Int) < 0 := by omega
      have y2 : ¬ (12 : Int) ≤ (y : Int) := by omega
      have y3 : (y : Int) < 12 := by omega
      rcases hq with ⟨hq, hne⟩ | ⟨hq, hne⟩
      · rw [cell_get hyu hzu, cell_get hygu hzgu] at hne
        have hne2 : (u[y][z] == gu[y][z]) = false := beq_eq_false_iff_ne.2 hne
        have q1 : F[n].1 = (z : Int) := by rw [hq]
        have q2 : F[n].2 = (y : Int) := by rw [hq]
        have z1 : ¬ (z : Int) < 0 := by omega
        have z2 : ¬ (96 : Int) ≤ (z : Int) := by omega
        have z3 : (z : Int) < 48 := by omega
        have z4 : ¬ (48 : Int) ≤ (z : Int) := by omega
        by_cases hn0 : n = 0
        · have hn1 : ¬ (0 : Int) < (n : Int) := by omega
          have hn2 : ¬ 0 < n := by omega
          simp [hn, q1, q2, y1, y2, y3, z1, z2, z3, z4, e96, hy, hz, hyu, hygu, hzu, hzgu, hne2, hw1, lu, ld, glu, gld, hn1, hn2]
          refine hK (n + 1) _ _ (by omega) ?_
          simp [glu, gld, lu, ld]
          omega
        · obtain ⟨j, hj⟩ : ∃ j, n = j + 1 := ⟨n - 1, by omega⟩
          have hn1 : (0 : Int) < (n : Int) := by omega
          have hn2 : 0 < n := by omega
          have hjF : j < F.length := by omega
          have hw5 : IntKind.i64.wrap ((n : Int) - 1) = (j : Int) := (wrap_ok (by omega) (by omega)).trans (by omega)
          have hbe := List.pairwise_iff_getElem.1 hpw j n hjF hn (by omega)
          unfold bef at hbe
          rw [q1, q2] at hbe
          have hB := Before_fn F[j].1 F[j].2 (z : Int) (y : Int)
          rw [decide_eq_true hbe] at hB
          simp [hn, q1, q2, y1, y2, y3, z1, z2, z3, z4, e96, hy, hz, hyu, hygu, hzu, hzgu, hne2, hw1, lu, ld, glu, gld, hn1, hn2, hjF, hw5]
          refine call_of hB ?_
          simp [hn, q1, q2, y1, y2, y3, z1, z2, z3, z4, e96, hy, hz, hyu, hygu, hzu, hzgu, hne2, hw1, lu, ld, glu, gld]
          refine hK (n + 1) _ _ (by omega) ?_
          simp [glu, gld, lu, ld]
          omega
      · rw [cell_get hyd hzd, cell_get hygd hzgd] at hne
        have hne2 : (d[y][z] == gd[y][z]) = false := beq_eq_false_iff_ne.2 hne
        have q1 : F[n].1 = 48 + (z : Int) := by rw [hq]; simp
        have q2 : F[n].2 = (y : Int) := by rw [hq]
        have z1 : ¬ 48 + (z : Int) < 0 := by omega
        have z2 : ¬ (96 : Int) ≤ 48 + (z : Int) := by omega
        have z3 : ¬ 48 + (z : Int) < 48 := by omega
        have z4 : (48 : Int) ≤ 48 + (z : Int) := by omega
        have z5 : IntKind.i64.wrap (48 + (z : Int) - 48) = (z : Int) := (wrap_ok (by omega) (by omega)).trans (by omega)
        by_cases hn0 : n = 0
        · have hn1 : ¬ (0 : Int) < (n : Int) := by omega
          have hn2 : ¬ 0 < n := by omega
          simp [hn, q1, q2, y1, y2, y3, z1, z2, z3, z4, z5, e96, hy, hz, hyd, hygd, hzd, hzgd, hne2, hw1, lu, ld, glu, gld, hn1, hn2]
          refine hK (n + 1) _ _ (by omega) ?_
          simp [glu, gld, lu, ld]
          omega
        · obtain ⟨j, hj⟩ : ∃ j, n = j + 1 := ⟨n - 1, by omega⟩
          have hn1 : (0 : Int) < (n : Int) := by omega
          have hn2 : 0 < n := by omega
          have hjF : j < F.length := by omega
          have hw5 : IntKind.i64.wrap ((n : Int) - 1) = (j : Int) := (wrap_ok (by omega) (by omega)).trans (by omega)
          have hbe := List.pairwise_iff_getElem.1 hpw j n hjF hn (by omega)
          unfold bef at hbe
          rw [q1, q2] at hbe
          have hB := Before_fn F[j].1 F[j].2 (48 + (z : Int)) (y : Int)
          rw [decide_eq_true hbe] at hB
          simp [hn, q1, q2, y1, y2, y3, z1, z2, z3, z4, z5, e96, hy, hz, hyd, hygd, hzd, hzgd, hne2, hw1, lu, ld, glu, gld, hn1, hn2, hjF, hw5]
          refine call_of hB ?_
          simp [hn, q1, q2, y1, y2, y3, z1, z2, z3, z4, z5, e96, hy, hz, hyd, hygd, hzd, hzgd, hne2, hw1, lu, ld, glu, gld]
          refine hK (n + 1) _ _ (by omega) ?_
          simp [glu, gld, lu, ld]
          omega
    · obtain rfl : n = F.length := by omega
      have hGd : decide ((48 : Int) = 48 ∧ (12 : Int) = 12 ∧ gu = u ∧ gd = d) = decide (F = []) := by
        refine decide_eq_decide.2 ?_
        rw [hnil]
        constructor
        · rintro ⟨_, _, rfl, rfl⟩; exact ⟨rfl, rfl⟩
        · rintro ⟨rfl, rfl⟩; exact ⟨rfl, rfl, rfl, rfl⟩
      have hEd : decide ((48 : Int) = 48 ∧ (12 : Int) = 12 ∧ u = gu ∧ d = gd) = decide (F = []) := by
        refine decide_eq_decide.2 ?_
        rw [hnil]
        constructor
        · rintro ⟨_, _, h⟩; exact h
        · exact fun h => ⟨rfl, rfl, h⟩
      have hG' : Am.Fn Try.prog 18 [0] [PC 48 12 u d, OC ⟨48, 12, gu, gd, gs, !gb, gw⟩] (.bool (!gb && decide (F = []))) := by rw [← hGd]; exact hG
      rw [hEd] at hE
      simp
      refine hX _ _ _ ?_
      simp [lu, ld, fu, fd, glu, gld, fgu, fgd]
      refine call_of hG' ?_
      cases gb <;> by_cases hF : F = [] <;> simp [hF, lu, ld, fu, fd, glu, gld, fgu, fgd] <;> (refine call_of hE ?_; simp [hF]; refine hR _ _ ?_; simp [X8])
end Go.Proofs.Ytgdcogoacnghkaa.N
