/-
  Chapter 27: a stop before a strike.
-/
import Derived.Test.YtgdcogoacnghkaaQOiA
namespace Go.Proofs.Ytgdcogoacnghkaa.N
set_option linter.unusedSimpArgs false
set_option linter.unusedVariables false
set_option linter.unusedSectionVars false
open Go.Proofs.Ytgdcogoacnghkaa.Am
set_option maxHeartbeats 4000000
/-- dots of a row set to b -/
def setsR (b : Bool) (r : List Bool) (l : List Int) : List Bool := l.foldl (fun r x => r.set x.toNat b) r
def modB (b : Bool) (d : List (List Bool)) (k : Nat) (l : List Int) : List (List Bool) := d.modify k fun r => setsR b r l
theorem setsR_len (b : Bool) (l : List Int) : ∀ r : List Bool, (setsR b r l).length = r.length := by
  unfold setsR
  induction l with
  | nil => intro r; rfl
  | cons x l ih => intro r; rw [List.foldl_cons, ih]; simp
theorem setsR_snoc {b : Bool} {r : List Bool} {l : List Int} {i : Nat} (h : i < l.length) : setsR b r (l.take (i + 1)) = (setsR b r (l.take i)).set l[i].toNat b := by
  unfold setsR; rw [take_snoc h, List.foldl_append]; rfl
theorem modB_len {b : Bool} {d : List (List Bool)} {k : Nat} {l : List Int} : (modB b d k l).length = d.length := by simp [modB]
theorem modB_wid {b : Bool} {w k : Nat} {d : List (List Bool)} {l : List Int} (h : Wid w d) : Wid w (modB b d k l) := by
  intro r hr
  obtain ⟨i, hi, rfl⟩ := List.mem_iff_getElem.1 hr
  have hi' : i < d.length := by rw [modB_len] at hi; exact hi
  simp only [modB, List.getElem_modify]
  split
  · rw [setsR_len]; exact wid_get h hi'
  · exact wid_get h hi'
theorem modB_nil {b : Bool} {d : List (List Bool)} {k : Nat} : modB b d k [] = d := by
  refine List.ext_getElem? fun i => ?_
  unfold modB
  rw [List.getElem?_modify]
  split <;> cases d[i]? <;> rfl
theorem modB_snoc {b : Bool} {d : List (List Bool)} {k i x : Nat} {l : List Int} (hi : i < l.length) (hk : k < (modB b d k (l.take i)).length) (hx : l[i] = (x : Int)) : (modB b d k (l.take i)).set k ((modB b d k (l.take i))[k].set x b) = modB b d k (l.take (i + 1)) := by
  have hk' : k < d.length := by rw [modB_len] at hk; exact hk
  refine List.ext_getElem (by simp [modB_len]) fun j h1 h2 => ?_
  rw [List.getElem_set]
  split
  · rename_i e
    subst e
    simp only [modB, List.getElem_modify, if_pos]
    rw [setsR_snoc hi, hx]; rfl
  · rename_i e
    simp only [modB, List.getElem_modify, if_neg e]
theorem modB_true {d : List (List Bool)} {k : Nat} {l : List Int} : modB true d k l = modR d k l := rfl
theorem set_same {r : List Bool} {x : Nat} (h : (r[x]?).getD false = false) : r.set x false = r := by
  refine List.ext_getElem (by simp) fun j h1 h2 => ?_
  rw [List.getElem_set]
  split
  · rename_i e; subst e
    rw [List.getElem?_eq_getElem h2] at h
    exact h.symm
  · rfl
theorem setsR_same : ∀ (l : List Int) {r : List Bool}, (∀ z ∈ l, (r[z.toNat]?).getD false = false) → setsR false r l = r
  | [], _, _ => rfl
  | z :: l, r, h => by
    have e : setsR false r (z :: l) = setsR false (r.set z.toNat false) l := rfl
    rw [e, set_same (h z List.mem_cons_self), setsR_same l fun w hw => h w (List.mem_cons_of_mem _ hw)]
theorem modB_same {d : List (List Bool)} {k : Nat} {l : List Int} (h : ∀ z ∈ l, cell d k z.toNat = false) : modB false d k l = d := by
  refine List.ext_getElem? fun i => ?_
  unfold modB
  rw [List.getElem?_modify]
  cases hd : d[i]? with
  | none => rfl
  | some r =>
    simp only [Option.map_eq_map, Option.map_some]
    split
    · rename_i e; subst e
      rw [setsR_same l fun z hz => by have := h z hz; unfold cell at this; rw [hd] at this; exact this]
    · rfl
/-- what is there after j strikes -/
def stT (P : List Stk) (j : Nat) : Em := (P.take j).foldl strikeG (startG [])
theorem stT_ok (P : List Stk) (j : Nat) : EmOk (stT P j) := fold_ok _ (start_ok [])
theorem stT_succ {P : List Stk} {k : Nat} (hk : k < P.length) : stT P (k + 1) = strikeG (stT P k) P[k] := by
  unfold stT; rw [take_snoc hk, List.foldl_append]; rfl
theorem alive_all {pin : Int} {l : List Int} : alive pin [] l = l := by unfold alive; simp
theorem stT_up {P : List Stk} {k y : Nat} (hk : k < P.length) (hy : P[k].row = (y : Int)) (hy2 : y < 12) : (stT P (k + 1)).u = modR (stT P k).u y P[k].up ∧ (stT P (k + 1)).d = modR (stT P k).d y P[k].down := by
  obtain ⟨h1, h2, _, _⟩ := fold_fields (P.take k) (startG [])
  rw [stT_succ hk]
  have e1 : (stT P k).slip = 0 := h1
  have e2 : (stT P k).worn = [] := h2
  simp only [strikeG, e1, e2, alive_all, hitR, hy]
  rw [if_pos (by omega), if_pos (by omega), show ((y : Int) + ((0 : Nat) : Int)).toNat = y by omega]
  exact ⟨rfl, rfl⟩
/-- how many dots the strikes from i up to k have -/
def szS (P : List Stk) (i k : Nat) : Nat := (((P.take k).drop i).map size).sum
theorem szS_lt {P : List Stk} {i k : Nat} (h : k ≤ i) : szS P i k = 0 := by
  unfold szS; rw [List.drop_eq_nil_of_le (by rw [List.length_take]; omega)]; rfl
theorem szS_succ {P : List Stk} {i k : Nat} (hk : k < P.length) (h : i ≤ k) : szS P i (k + 1) = szS P i k + size P[k] := by
  unfold szS
  rw [take_snoc hk, List.drop_append_of_le_length (by rw [List.length_take]; omega), List.map_append, List.sum_append]; simp
theorem szS_le {P : List Stk} (hP : ∀ s ∈ P, size s ≤ 2000) (i k : Nat) : szS P i k ≤ k * 2000 := by
  have : ∀ l : List Stk, (∀ s ∈ l, size s ≤ 2000) → (l.map size).sum ≤ l.length * 2000 := by
    intro l
    induction l with
    | nil => intro _; simp
    | cons s l ih =>
      intro h
      have h1 := ih fun z hz => h z (List.mem_cons_of_mem _ hz)
      have h2 := h s List.mem_cons_self
      rw [List.map_cons, List.sum_cons, List.length_cons]; omega
  unfold szS
  have h1 := this ((P.take k).drop i) fun s hs => hP s (List.mem_of_mem_take (List.mem_of_mem_drop hs))
  have h2 : ((P.take k).drop i).length ≤ k := by rw [List.length_drop, List.length_take]; omega
  exact Nat.le_trans h1 (Nat.mul_le_mul_right _ h2)
theorem Stops_fn (x : List (Int × Int × Int)) (c1 c2 c3 : Int) (hx : ∀ p ∈ x, t8 p) (hc1 : b8 c1) (hc2 : b8 c2) (hc3 : b8 c3) : Am.Fn Try.prog 5 [0] [.agg [TL x], .agg [U8 c1, U8 c2, U8 c3]] (.bool true) := by
  obtain ⟨u, d, m, hMd⟩ := Made_fn x hx
  have hMo := most_fn c1 hc1
  obtain ⟨k0, hk, hk1, hk2⟩ := most_ok hc1
  rw [hk] at hMo
  have hRP := RPlan_fn 48 12 k0 u d m.valid hk1 hk2
  have hPP := m.plan hk1 hk2
  have hpos := size_pos (n := k0) hk1 (us := u) (ds := d) (y := 0)
  have hM := fun ts hts => Make_fn u d k0 [] ts _ m hk1 hk2 rfl hPP (by simp) hts
  have hst := fun i kk (h1 : kk = 1 ∨ kk = 4) (h2 : i < (planG 48 k0 0 u d).length) => make_stop (u := u) (d := d) (n := k0) h1 h2
  have hcn := fun i E hE => stop_scan m hk1 hk2 i (E := E) hE
  have hlu := fun i k (h1 : i ≤ k) (h2 : k < (planG 48 k0 0 u d).length) r c h3 h4 => later_up m hk1 hk2 h1 h2 (r := r) (c := c) h3 h4
  have hld := fun i k (h1 : i ≤ k) (h2 : k < (planG 48 k0 0 u d).length) r c h3 h4 => later_dn m hk1 hk2 h1 h2 (r := r) (c := c) h3 h4
  generalize planG 48 k0 0 u d = P at hRP hPP hpos hM hst hcn hlu hld
  obtain ⟨fu, fd⟩ := m.frz
  have lu := m.lu
  have ld := m.ld
  have hPl := hPP.len
  refine fn_introX mixed (X := X5) c5 23 (by simp [X5]) fun Q hR hN => ?_
  by_cases hP0 : P.length = 0
  · simp [X5]
    refine call_of sanity_fn ?_
    simp
    refine call_of hMd ?_
    simp [lu, ld]
    refine call_of hMo ?_
    simp [lu, ld, fu, fd]
    refine call_of hRP ?_
    simp [hP0, frz_stU1]
    refine hR _ _ ?_
    simp [X5]
  obtain ⟨i, hi, hi2⟩ : ∃ i : Nat, c2.tmod (P.length : Int) = i ∧ i < P.length := by
    rw [Int.tmod_eq_emod_of_nonneg hc2.1]
    have h1 := Int.emod_nonneg c2 (b := (P.length : Int)) (by omega)
    have h2 := Int.emod_lt_of_pos c2 (b := (P.length : Int)) (by omega)
    exact ⟨(c2 % (P.length : Int)).toNat, by omega, by omega⟩
  have w2 : IntKind.i64.wrap c2 = c2 := by obtain ⟨p, q⟩ := hc2; exact wrap_ok (by omega) (by omega)
  obtain ⟨kk, hkk, hkk2⟩ : ∃ kk : Int, (if c3.tmod 2 = 1 then (4 : Int) else 1) = kk ∧ (kk = 1 ∨ kk = 4) := by
    by_cases h : c3.tmod 2 = 1
    · exact ⟨4, if_pos h, .inr rfl⟩
    · exact ⟨1, if_neg h, .inl rfl⟩
  have hM1 := hM [⟨kk, i, 0⟩, ⟨2, i, 0⟩] (by simp)
  rw [hst i kk hkk2 hi2] at hM1
  have eE := hcn i (stT P i) rfl
  have hE := stT_ok P i
  obtain ⟨f1, f2, f3, f4⟩ := fold_fields (P.take i) (startG [])
  have eT : (P.take i).foldl strikeG (startG []) = stT P i := rfl
  rw [eT] at hM1 f1 f2 f3 f4
  have f4' : (stT P i).strikes = i := by rw [f4, List.length_take, Nat.min_eq_left (by omega)]; exact Nat.zero_add _
  have f2' : (stT P i).worn = [] := f2
  simp only [outG, f2', f4', Bool.not_true] at hM1
  have mE := hE.mad
  obtain ⟨fgu, fgd⟩ := mE.frz
  have glu := mE.lu
  have gld := mE.ld
  have hZ := Sized_fn 48 12 48 12 (stT P i).u (stT P i).d
  rw [mE.gval.1, mE.gval.2, decide_eq_true ⟨rfl, rfl⟩] at hZ
  have hG := Good_fn 48 12 u d ⟨48, 12, (stT P i).u, (stT P i).d, i, false, []⟩ mE.rws.1 mE.rws.2
  have hSc := Scan_fn u d (stT P i).u (stT P i).d i false [] m mE
  have hEq := REqual_fn 48 12 48 12 (stT P i).u (stT P i).d (stT P i).u (stT P i).d mE.rws.1 mE.rws.2
  rw [decide_eq_true ⟨rfl, rfl, rfl, rfl⟩] at hEq
  have hB := RBlank_fn 48 12 (by omega) (by omega)
  have hst0 : (stT P 0).u = blankD 48 12 ∧ (stT P 0).d = blankD 48 12 := ⟨rfl, rfl⟩
  rw [← hst0.1] at hB
  have hlu2 : ∀ k (h1 : i ≤ k) (h2 : k < P.length) (y : Nat), P[k].row = (y : Int) → ∀ z ∈ P[k].up, cell (stT P i).u y z.toNat = false := fun k h1 h2 y h3 z hz => by
    have hb := (hPP.ok _ (List.getElem_mem h2)).bu z hz
    exact hlu i k h1 h2 y z.toNat h3 (by rw [Int.toNat_of_nonneg hb.1]; exact hz)
  have hld2 : ∀ k (h1 : i ≤ k) (h2 : k < P.length) (y : Nat), P[k].row = (y : Int) → ∀ z ∈ P[k].down, cell (stT P i).d y z.toNat = false := fun k h1 h2 y h3 z hz => by
    have hb := (hPP.ok _ (List.getElem_mem h2)).bd z hz
    exact hld i k h1 h2 y z.toNat h3 (by rw [Int.toNat_of_nonneg hb.1]; exact hz)
  have hok := fun j => (stT_ok P j).mad
  obtain ⟨E, hEE⟩ : ∃ E, stT P i = E := ⟨_, rfl⟩
  rw [hEE] at eE hZ hG hSc hEq mE fgu fgd glu gld hM1 hlu2 hld2
  generalize scanG 48 0 u d E.u E.d = F at hSc eE
  simp [X5]
  refine call_of sanity_fn ?_
  simp
  refine call_of hMd ?_
  simp [lu, ld]
  refine call_of hMo ?_
  simp [lu, ld, fu, fd]
  refine call_of hRP ?_
  have l0u := (hok 0).lu
  have l0d := (hok 0).ld
  have hszle := szS_le (P := P) (fun s hs => by have := hPP.ok s hs; have h1 := this.lu; have h2 := this.ld; unfold size; omega) i
  by_cases hp : c3.tmod 2 = 1
  case' pos =>
    rw [if_pos hp] at hkk
    subst hkk
    simp [hP0, frz_stU1, w2, hi, hp]
  case' neg =>
    rw [if_neg hp] at hkk
    subst hkk
    simp [hP0, frz_stU1, w2, hi, hp]
  all_goals
    refine call_of hMo ?_
    simp [lu, ld, fu, fd, glu, gld, fgu, fgd]
    refine call_of hM1 ?_
    simp [lu, ld, fu, fd, glu, gld, fgu, fgd]
    refine call_of hZ ?_
    simp [lu, ld, fu, fd, glu, gld, fgu, fgd]
    refine call_of hG ?_
    simp [lu, ld, fu, fd, glu, gld, fgu, fgd]
    refine call_of hSc ?_
    simp [lu, ld, fu, fd, glu, gld, fgu, fgd]
    refine call_of hB ?_
    simp [lu, ld, fu, fd, glu, gld, fgu, fgd, l0u, l0d]
    refine loopX (fun (p : Nat × Nat) vs h' => p.1 ≤ P.length ∧ p.2 = szS P i p.1 ∧ vs = [.undef, .undef, .undef, .undef, .undef, .bool true, .undef, .own 14 1 P.length 3 0 P.length, I i, .undef, .ptr 15 1 0, .undef, .own 16 1 F.length 2 0 F.length, I p.2, .ptr 17 1 0, I p.1, .undef, .undef, .undef, .undef, .undef, .undef, .undef, .undef, .undef] ∧ h' = [dd, dd, dd, dd, dd, dd, dd, dd, dd, dd, dd, dd, dd, dd, (1, .arr 3 0 false (P.map stC)), (1, .var [I 48, I 12, .own 18 1 12 1 0 12, .own 19 1 12 1 0 12, I i, .bool false, .own 20 1 0 1 0 0]), (1, .arr 2 0 false (F.map PT2)), (1, .var [I 48, I 12, .own 21 1 12 1 0 12, .own 22 1 12 1 0 12]), dRow E.u, dRow E.d, (1, .arr 1 0 false []), dRow (stT P (min p.1 i)).u, dRow (stT P (min p.1 i)).d]) (fun p => P.length - p.1) (0, 0) ?_ ?_
    · have z0 : szS P i 0 = 0 := szS_lt (by omega)
      simp [z0, l0u, l0d, glu, gld]
      rw [hst0.1, hst0.2]
    · rintro ⟨k, lf⟩ vs h' ⟨h1, h2, rfl, rfl⟩ Q' hK hX hR'
      dsimp only at h1 h2
      by_cases hk : k < P.length
      · have hw1 : IntKind.i64.wrap ((k : Int) + 1) = ((k + 1 : Nat) : Int) := wrap_ok (by omega) (by omega)
        have hSk := hPP.ok _ (List.getElem_mem hk)
        obtain ⟨hrow, hlu1, hld1, hbu, hbd⟩ := hSk
        obtain ⟨y, hy⟩ : ∃ y : Nat, P[k].row = y := ⟨P[k].row.toNat, by omega⟩
        have hy1 : y < 12 := by omega
        have hy2 : (y : Int) < 12 := by omega
        obtain ⟨b, hb⟩ : ∃ b, decide (k < i) = b := ⟨_, rfl⟩
        have hbI : decide ((k : Int) < (i : Int)) = b := by rw [← hb]; exact decide_eq_decide.2 (by omega)
        have mU := hok (min k i)
        obtain ⟨U, hU⟩ : ∃ U, (stT P (min k i)).u = U := ⟨_, rfl⟩
        obtain ⟨V, hV⟩ : ∃ V, (stT P (min k i)).d = V := ⟨_, rfl⟩
        rw [hU, hV] at mU
        obtain ⟨lU, lV, wU, wV⟩ := mU
        simp [hk, hU, hV]
        refine loopX (fun (p : Nat × List (List Bool)) vs h' => p.1 ≤ P[k].up.length ∧ p.2 = modB b U y (P[k].up.take p.1) ∧ vs = [.undef, .undef, .undef, .undef, .undef, .bool true, .undef, .own 14 1 P.length 3 0 P.length, I i, .undef, .ptr 15 1 0, .undef, .own 16 1 F.length 2 0 F.length, I lf, .ptr 17 1 0, I k, I p.1, .undef, .undef, .undef, .undef, .undef, .undef, .undef, .undef] ∧ h' = [dd, dd, dd, dd, dd, dd, dd, dd, dd, dd, dd, dd, dd, dd, (1, .arr 3 0 false (P.map stC)), (1, .var [I 48, I 12, .own 18 1 12 1 0 12, .own 19 1 12 1 0 12, I i, .bool false, .own 20 1 0 1 0 0]), (1, .arr 2 0 false (F.map PT2)), (1, .var [I 48, I 12, .own 21 1 12 1 0 12, .own 22 1 12 1 0 12]), dRow E.u, dRow E.d, (1, .arr 1 0 false []), dRow p.2, dRow V]) (fun p => P[k].up.length - p.1) (0, U) ?_ ?_
        · simp [modB_nil, lU, lV, glu, gld]
        · rintro ⟨n, W⟩ vs h' ⟨g1, g2, rfl, rfl⟩ Q2 hK2 hX2 hR2
          dsimp only at g1 g2
          have lW : W.length = 12 := by rw [g2, modB_len, lU]
          have wW : Wid 48 W := by rw [g2]; exact modB_wid wU
          have hyW : y < W.length := by omega
          have wWy := wid_get wW hyW
          by_cases hn : n < P[k].up.length
          · have hw2 : IntKind.i64.wrap ((n : Int) + 1) = ((n + 1 : Nat) : Int) := wrap_ok (by omega) (by omega)
            obtain ⟨b1, b2⟩ := hbu _ (List.getElem_mem hn)
            obtain ⟨x, hx⟩ : ∃ x : Nat, P[k].up[n] = x := ⟨P[k].up[n].toNat, by omega⟩
            have hx1 : x < 48 := by omega
            have hx2 : (x : Int) < 48 := by omega
            have hs : W.set y (W[y].set x b) = modB b U y (P[k].up.take (n + 1)) := by
              subst g2
              exact modB_snoc hn hyW hx
            simp [hk, hn, hx, hx1, hx2, hy, hy1, hy2, lW, hyW, wWy, hw2, hb, hbI]
            rw [uw_set, hs]
            refine hK2 (n + 1, modB b U y (P[k].up.take (n + 1))) _ _ (by dsimp only; omega) ?_
            simp [modB_len, lU, lV, glu, gld]
            omega
          · rw [List.take_of_length_le (by omega)] at g2
            simp [hk, hn]
            refine hX2 _ _ _ ?_
            simp
            clear hK2 hX2 hR2
            refine loopX (fun (p : Nat × List (List Bool)) vs h' => p.1 ≤ P[k].down.length ∧ p.2 = modB b V y (P[k].down.take p.1) ∧ vs = [.undef, .undef, .undef, .undef, .undef, .bool true, .undef, .own 14 1 P.length 3 0 P.length, I i, .undef, .ptr 15 1 0, .undef, .own 16 1 F.length 2 0 F.length, I lf, .ptr 17 1 0, I k, .undef, I p.1, .undef, .undef, .undef, .undef, .undef, .undef, .undef] ∧ h' = [dd, dd, dd, dd, dd, dd, dd, dd, dd, dd, dd, dd, dd, dd, (1, .arr 3 0 false (P.map stC)), (1, .var [I 48, I 12, .own 18 1 12 1 0 12, .own 19 1 12 1 0 12, I i, .bool false, .own 20 1 0 1 0 0]), (1, .arr 2 0 false (F.map PT2)), (1, .var [I 48, I 12, .own 21 1 12 1 0 12, .own 22 1 12 1 0 12]), dRow E.u, dRow E.d, (1, .arr 1 0 false []), dRow W, dRow p.2]) (fun p => P[k].down.length - p.1) (0, V) ?_ ?_
            · simp [modB_nil, lV, lW, glu, gld]
            · rintro ⟨n, Z⟩ vs h' ⟨g1, g3, rfl, rfl⟩ Q2 hK2 hX2 hR2
              dsimp only at g1 g3
              have lZ : Z.length = 12 := by rw [g3, modB_len, lV]
              have wZ : Wid 48 Z := by rw [g3]; exact modB_wid wV
              have hyZ : y < Z.length := by omega
              have wZy := wid_get wZ hyZ
              by_cases hn : n < P[k].down.length
              · have hw2 : IntKind.i64.wrap ((n : Int) + 1) = ((n + 1 : Nat) : Int) := wrap_ok (by omega) (by omega)
                obtain ⟨b1, b2⟩ := hbd _ (List.getElem_mem hn)
                obtain ⟨x, hx⟩ : ∃ x : Nat, P[k].down[n] = x := ⟨P[k].down[n].toNat, by omega⟩
                have hx1 : x < 48 := by omega
                have hx2 : (x : Int) < 48 := by omega
                have hs : Z.set y (Z[y].set x b) = modB b V y (P[k].down.take (n + 1)) := by
                  subst g3
                  exact modB_snoc hn hyZ hx
                simp [hk, hn, hx, hx1, hx2, hy, hy1, hy2, lZ, hyZ, wZy, hw2, hb, hbI]
                rw [uw_set, hs]
                refine hK2 (n + 1, modB b V y (P[k].down.take (n + 1))) _ _ (by dsimp only; omega) ?_
                simp [modB_len, lV, lW, glu, gld]
                omega
              · rw [List.take_of_length_le (by omega)] at g3
                simp [hk, hn]
                refine hX2 _ _ _ ?_
                have hle := hszle k
                have hw3 : IntKind.i64.wrap ((P[k].up.length : Int) + (P[k].down.length : Int)) = ((size P[k] : Nat) : Int) := (wrap_ok (by omega) (by omega)).trans (by unfold size; omega)
                have hw4 : IntKind.i64.wrap ((lf : Int) + ((size P[k] : Nat) : Int)) = ((lf + size P[k] : Nat) : Int) := wrap_ok (by unfold size; omega) (by unfold size; omega)
                by_cases hki : i ≤ k
                · have hki2 : (i : Int) ≤ (k : Int) := by omega
                  have hb0 : b = false := by rw [← hb]; exact decide_eq_false (by omega)
                  subst hb0
                  have hmin : min k i = i := Nat.min_eq_right hki
                  have hmin2 : min (k + 1) i = i := Nat.min_eq_right (by omega)
                  rw [hmin, hEE] at hU hV
                  have e1 : W = E.u := by rw [g2, ← hU]; exact modB_same (hlu2 k hki hk y hy)
                  have e2 : Z = E.d := by rw [g3, ← hV]; exact modB_same (hld2 k hki hk y hy)
                  have hsz := szS_succ hk hki
                  simp [hk, hki, hki2, hw3, hw4, hw1]
                  refine hK (k + 1, lf + size P[k]) _ _ (by dsimp only; omega) ?_
                  simp [hmin2, hEE, e1, e2, glu, gld]
                  exact ⟨by omega, by rw [hsz, h2]⟩
                · have hki2 : ¬ (i : Int) ≤ (k : Int) := by omega
                  have hb0 : b = true := by rw [← hb]; exact decide_eq_true (by omega)
                  subst hb0
                  have hmin : min k i = k := Nat.min_eq_left (by omega)
                  have hmin2 : min (k + 1) i = k + 1 := Nat.min_eq_left (by omega)
                  rw [hmin] at hU hV
                  obtain ⟨t1, t2⟩ := stT_up hk hy hy1
                  have e1 : W = (stT P (k + 1)).u := by rw [g2, t1, hU]; rfl
                  have e2 : Z = (stT P (k + 1)).d := by rw [g3, t2, hV]; rfl
                  have hsz : szS P i (k + 1) = szS P i k := by rw [szS_lt (by omega), szS_lt (by omega)]
                  have q1 := (hok (k + 1)).lu
                  have q2 := (hok (k + 1)).ld
                  simp [hk, hki, hki2, hw1]
                  refine hK (k + 1, lf) _ _ (by dsimp only; omega) ?_
                  simp [hmin2, e1, e2, glu, gld, q1, q2]
                  exact ⟨by omega, by rw [hsz, h2]⟩
      · obtain rfl : k = P.length := by omega
        have hmin : min P.length i = i := Nat.min_eq_right (by omega)
        have hsz : szS P i P.length = ((P.drop i).map size).sum := by unfold szS; rw [List.take_length]
        have hlf : lf = F.length := by rw [h2, hsz, eE]
        have hps : 0 < F.length := by
          rw [eE, List.drop_eq_getElem_cons hi2, List.map_cons, List.sum_cons]
          have := hpos _ (List.getElem_mem hi2)
          omega
        subst hlf
        simp [hk, hmin, hEE]
        refine hX _ _ _ ?_
        simp [lu, ld, fu, fd, glu, gld, fgu, fgd, hps]
        refine call_of hEq ?_
        simp
        refine hR _ _ ?_
        simp [X5]
end Go.Proofs.Ytgdcogoacnghkaa.N
