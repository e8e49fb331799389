/-
  Chapter 27, plain: dots counted, strikes that do not meet, what scanning finds, troubles exchanged.
-/
import Derived.Test.YtgdcogoacnghkaaQOgP
namespace Go.Proofs.Ytgdcogoacnghkaa.N
set_option linter.unusedSimpArgs false
set_option linter.unusedVariables false
set_option linter.unusedSectionVars false
open Go.Proofs.Ytgdcogoacnghkaa.Am
/-! counts -/
theorem cnt_set : ∀ (r : List Bool) (i : Nat), cnt (r.set i true) ≤ cnt r + 1
  | [], i => by simp [cnt]
  | b :: r, 0 => by cases b <;> simp [cnt]
  | b :: r, i + 1 => by
    have := cnt_set r i
    simp only [cnt] at this ⊢
    cases b <;> simp <;> omega
theorem cnt_raise : ∀ (l : List Int) (r : List Bool), cnt (raiseR r l) ≤ cnt r + l.length
  | [], r => Nat.le_refl _
  | z :: l, r => by
    have h1 := cnt_raise l (r.set z.toNat true)
    have h2 := cnt_set r z.toNat
    rw [show raiseR r (z :: l) = raiseR (r.set z.toNat true) l from rfl, List.length_cons]; omega
theorem cntD_modify {f : List Bool → List Bool} {m : Nat} (hf : ∀ r, cnt (f r) ≤ cnt r + m) : ∀ (d : List (List Bool)) (k : Nat), cntD (d.modify k f) ≤ cntD d + m
  | [], k => by simp [cntD]
  | r :: d, 0 => by have := hf r; simp only [List.modify_zero_cons, cntD, List.map_cons, List.sum_cons]; omega
  | r :: d, k + 1 => by have := cntD_modify hf d k; simp only [cntD] at this; simp only [List.modify_succ_cons, cntD, List.map_cons, List.sum_cons]; omega
theorem cntD_hit {d : List (List Bool)} {y : Int} {l : List Int} : cntD (hitR d y l) ≤ cntD d + l.length := by
  unfold hitR
  split
  · exact cntD_modify (fun r => cnt_raise l r) _ _
  · omega
def cntE (s : Em) : Nat := cntD s.u + cntD s.d
theorem cntE_strike (s : Em) (k : Stk) : cntE (strikeG s k) ≤ cntE s + size k := by
  have h1 := cntD_hit (d := s.u) (y := k.row + s.slip) (l := alive 0 s.worn k.up)
  have h2 := cntD_hit (d := s.d) (y := k.row + s.slip) (l := alive 48 s.worn k.down)
  have h3 : (alive 0 s.worn k.up).length ≤ k.up.length := List.length_filter_le _ _
  have h4 : (alive 48 s.worn k.down).length ≤ k.down.length := List.length_filter_le _ _
  simp only [cntE, strikeG, size]; omega
theorem cntE_fold : ∀ (P : List Stk) (s : Em), cntE (P.foldl strikeG s) ≤ cntE s + (P.map size).sum
  | [], s => by simp
  | k :: P, s => by
    have h1 := cntE_fold P (strikeG s k)
    have h2 := cntE_strike s k
    rw [List.foldl_cons, List.map_cons, List.sum_cons]; omega
theorem cntD_blank (h w : Nat) : cntD (blankD w h) = 0 := by
  unfold cntD blankD
  rw [List.map_replicate]
  have : cnt (List.replicate w false) = 0 := by simp [cnt, List.count_replicate]
  rw [this]; simp
theorem stop_cnt {u d : List (List Bool)} (m : Mad u d) {n : Nat} (hn : 1 ≤ n) (hn2 : n ≤ 64) (i : Nat) : cntE (((planG 48 n 0 u d).take i).foldl strikeG (startG [])) = (((planG 48 n 0 u d).take i).map size).sum ∧ (((planG 48 n 0 u d).drop i).map size).sum + cntE (((planG 48 n 0 u d).take i).foldl strikeG (startG [])) = cntD u + cntD d := by
  have h1 := make_good m hn hn2
  unfold makeG at h1
  rw [run_quiet rfl fun j _ => rfl] at h1
  have h2 := planG_sum (w := 48) hn u d 0 (by rw [m.lu, m.ld])
  generalize planG 48 n 0 u d = P at h1 h2
  have e : P.take i ++ P.drop i = P := List.take_append_drop i P
  have h3 := cntE_fold (P.take i) (startG [])
  have h4 := cntE_fold (P.drop i) ((P.take i).foldl strikeG (startG []))
  rw [← List.foldl_append, e, h1] at h4
  rw [← e, List.map_append, List.sum_append] at h2
  have h5 : cntE (startG []) = 0 := by simp only [cntE, startG, cntD_blank]
  simp only [cntE] at h3 h4 h5 ⊢
  omega
/-! how many places scanning finds -/
theorem dif_cnt {off y : Int} : ∀ (a b : List Bool) (x : Nat), a.length = b.length → (∀ i : Nat, b[i]? = some true → a[i]? = some true) → (dif off y x a b).length + cnt b = cnt a
  | [], [], x, _, _ => by simp [dif, cnt]
  | a :: r, b :: s, x, h, hs => by
    have ih := dif_cnt (off := off) (y := y) r s (x + 1) (by simpa using h) fun i hi => by simpa using hs (i + 1) (by simpa using hi)
    have h0 := hs 0
    simp only [cnt] at ih ⊢
    unfold dif
    cases a <;> cases b <;> simp at h0 ⊢ <;> omega
  | [], _ :: _, _, h, _ => by simp at h
  | _ :: _, [], _, h, _ => by simp at h
theorem scan_cnt {w : Int} : ∀ (us ds us' ds' : List (List Bool)) (y : Nat), us.length = us'.length → us.length = ds.length → us.length = ds'.length →
    (∀ (j : Nat) a b, us[j]? = some a → us'[j]? = some b → a.length = b.length ∧ ∀ i : Nat, b[i]? = some true → a[i]? = some true) →
    (∀ (j : Nat) a b, ds[j]? = some a → ds'[j]? = some b → a.length = b.length ∧ ∀ i : Nat, b[i]? = some true → a[i]? = some true) → (scanG w y us ds us' ds').length + (cntD us' + cntD ds') = cntD us + cntD ds
  | u :: us, d :: ds, u' :: us', d' :: ds', y, h1, h2, h3, hu, hd => by
    have ih := scan_cnt (w := w) us ds us' ds' (y + 1) (by simpa using h1) (by simpa using h2) (by simpa using h3) (fun j a b e1 e2 => hu (j + 1) a b (by simpa using e1) (by simpa using e2)) fun j a b e1 e2 => hd (j + 1) a b (by simpa using e1) (by simpa using e2)
    obtain ⟨a1, a2⟩ := hu 0 u u' rfl rfl
    obtain ⟨b1, b2⟩ := hd 0 d d' rfl rfl
    have c1 := dif_cnt (off := 0) (y := y) u u' 0 a1 a2
    have c2 := dif_cnt (off := w) (y := y) d d' 0 b1 b2
    simp only [cntD] at ih
    simp only [scanG, List.length_append, cntD, List.map_cons, List.sum_cons]
    omega
  | [], [], [], [], _, _, _, _, _, _ => by simp [scanG, cntD]
  | [], [], [], _ :: _, _, _, _, h, _, _ => by simp at h
  | [], [], _ :: _, _, _, h, _, _, _, _ => by simp at h
  | [], _ :: _, _, _, _, _, h, _, _, _ => by simp at h
  | _ :: _, [], _, _, _, _, h, _, _, _ => by simp at h
  | _ :: _, _ :: _, [], _, _, h, _, _, _, _ => by simp at h
  | _ :: _, _ :: _, _ :: _, [], _, _, _, h, _, _ => by simp at h
theorem G48.sub {a b : List (List Bool)} (ga : G48 a) (gb : G48 b) (h : ∀ y x, y < 12 → x < 48 → cell b y x = true → cell a y x = true) (j : Nat) (ra rb : List Bool) (h1 : a[j]? = some ra) (h2 : b[j]? = some rb) : ra.length = rb.length ∧ ∀ i : Nat, rb[i]? = some true → ra[i]? = some true := by
  obtain ⟨p1, rfl⟩ := List.getElem?_eq_some_iff.1 h1
  obtain ⟨p2, rfl⟩ := List.getElem?_eq_some_iff.1 h2
  have w1 := wid_get ga.wid p1
  have w2 := wid_get gb.wid p2
  refine ⟨by rw [w1, w2], fun i hi => ?_⟩
  obtain ⟨q, hq⟩ := List.getElem?_eq_some_iff.1 hi
  have q1 : i < a[j].length := by omega
  have := h j i (by rw [← ga.len]; exact p1) (by omega) (by rw [cell_get p2 q]; exact hq)
  rw [cell_get p1 q1] at this
  rw [List.getElem?_eq_getElem q1, this]
/-- a stop: the places that are found -/
theorem stop_scan {u d : List (List Bool)} (m : Mad u d) {n : Nat} (hn : 1 ≤ n) (hn2 : n ≤ 64) (i : Nat) {E : Em} (hE : ((planG 48 n 0 u d).take i).foldl strikeG (startG []) = E) : (scanG 48 0 u d E.u E.d).length = (((planG 48 n 0 u d).drop i).map size).sum := by
  have hP := (m.plan hn hn2).ok
  have hok := fold_ok ((planG 48 n 0 u d).take i) (start_ok [])
  have hc := (stop_cnt m hn hn2 i).2
  have hU := fun r c (hr : r < 12) (hc : c < 48) => fold_up hr hc ((planG 48 n 0 u d).take i) (start_ok []) fun k hk => hP k (List.mem_of_mem_take hk)
  have hD := fun r c (hr : r < 12) (hc : c < 48) => fold_dn hr hc ((planG 48 n 0 u d).take i) (start_ok []) fun k hk => hP k (List.mem_of_mem_take hk)
  rw [hE] at hok hc
  simp only [hE] at hU hD
  have s1 : ∀ y x, y < 12 → x < 48 → cell E.u y x = true → cell u y x = true := fun y x hy hx h => by
    rw [hU y x hy hx, show (startG []).u = blankD 48 12 from rfl, cell_blank, Bool.false_or] at h
    have h2 := plan_up (n := n) (a := 0) (w := []) (r := y) (c := x) hn (us := u) (ds := d) (y := 0) (by rw [m.lu, m.ld]) m.wu
    have h3 : byUp (planG 48 n 0 u d) 0 [] y x = true := by
      unfold byUp at h ⊢
      obtain ⟨k, k1, k2⟩ := List.any_eq_true.1 h
      exact List.any_eq_true.2 ⟨k, List.mem_of_mem_take k1, k2⟩
    rw [h3] at h2
    simpa using h2.symm
  have s2 : ∀ y x, y < 12 → x < 48 → cell E.d y x = true → cell d y x = true := fun y x hy hx h => by
    rw [hD y x hy hx, show (startG []).d = blankD 48 12 from rfl, cell_blank, Bool.false_or] at h
    have h2 := plan_dn (n := n) (a := 0) (w := []) (r := y) (c := x) hn (us := u) (ds := d) (y := 0) (by rw [m.lu, m.ld]) m.wu
    have h3 : byDn (planG 48 n 0 u d) 0 [] y x = true := by
      unfold byDn at h ⊢
      obtain ⟨k, k1, k2⟩ := List.any_eq_true.1 h
      exact List.any_eq_true.2 ⟨k, List.mem_of_mem_take k1, k2⟩
    rw [h3] at h2
    simpa using h2.symm
  have := scan_cnt (w := 48) u d E.u E.d 0 (by rw [m.lu, hok.mad.lu]) (by rw [m.lu, m.ld]) (by rw [m.lu, hok.mad.ld]) (m.gu.sub hok.mad.gu s1) (m.gd.sub hok.mad.gd s2)
  simp only [cntE] at hc
  omega
/-! strikes of a plan do not meet -/
def Apart (a b : Stk) : Prop := a.row = b.row → (∀ x ∈ a.up, ¬ x ∈ b.up) ∧ ∀ x ∈ a.down, ¬ x ∈ b.down
theorem pw_apart {l : List Stk} {f : Stk → List Int} (h : (l.flatMap f).Pairwise (· < ·)) : l.Pairwise fun a b => ∀ x ∈ f a, ¬ x ∈ f b :=
  (List.pairwise_flatMap.1 h).2.imp fun {a b} h x h1 h2 => by have := h x h1 x h2; omega
theorem planRow_apart {n y : Nat} {u d : List Bool} (hn : 1 ≤ n) (hu : u.length = 48) : (planRow 48 n y u d).Pairwise Apart := by
  have h1 := planRow_up (y := y) (d := d) hn hu
  have h2 := planRow_down (y := y) (d := d) hn hu
  have a1 := pw_apart (l := planRow 48 n y u d) (f := (·.up)) (by rw [h1]; exact posG_pw _ _ _)
  have a2 := pw_apart (l := planRow 48 n y u d) (f := (·.down)) (by rw [h2]; exact posG_pw _ _ _)
  refine (a1.and a2).imp ?_
  intro a b h
  exact fun _ => h
theorem plan_apart {n : Nat} (hn : 1 ≤ n) : ∀ {us ds : List (List Bool)} {y : Nat}, Wid 48 us → (planG 48 n y us ds).Pairwise Apart
  | u :: us, d :: ds, y, hu => by
    rw [planG]
    refine List.pairwise_append.2 ⟨planRow_apart hn (hu u List.mem_cons_self), plan_apart hn fun x hx => hu x (List.mem_cons_of_mem _ hx), fun a ha b hb e => ?_⟩
    have h1 := planRow_row a ha
    have h2 := planG_row us ds (y + 1) b hb
    omega
  | [], _, _, _ => by simp [planG]
  | _ :: _, [], _, _ => by simp [planG]
/-- later strikes' dots are not there yet -/
theorem later_up {u d : List (List Bool)} (m : Mad u d) {n : Nat} (hn : 1 ≤ n) (hn2 : n ≤ 64) {i k : Nat} (hik : i ≤ k) (hk : k < (planG 48 n 0 u d).length) {r c : Nat} (hr : (planG 48 n 0 u d)[k].row = r) (hc : (c : Int) ∈ (planG 48 n 0 u d)[k].up) : cell (((planG 48 n 0 u d).take i).foldl strikeG (startG [])).u r c = false := by
  have hP := (m.plan hn hn2).ok
  have hA := plan_apart (n := n) (us := u) (ds := d) (y := 0) hn m.wu
  have hkk := hP _ (List.getElem_mem hk)
  have hb := hkk.bu _ hc
  have hrr := hkk.row
  rw [fold_up (by omega) (by omega) _ (start_ok []) fun k hk => hP k (List.mem_of_mem_take hk), show (startG []).u = blankD 48 12 from rfl, cell_blank, Bool.false_or]
  unfold byUp
  rw [List.any_eq_false]
  intro s hs h
  obtain ⟨j, hj, rfl⟩ := List.mem_take_iff_getElem.1 hs
  have hjk : j < k := by omega
  have hap := List.pairwise_iff_getElem.1 hA j k (by omega) hk hjk
  simp only [Bool.and_eq_true, decide_eq_true_eq] at h
  exact (hap (by have := h.1; simp only [startG] at this; omega)).1 _ h.2.1 hc
theorem later_dn {u d : List (List Bool)} (m : Mad u d) {n : Nat} (hn : 1 ≤ n) (hn2 : n ≤ 64) {i k : Nat} (hik : i ≤ k) (hk : k < (planG 48 n 0 u d).length) {r c : Nat} (hr : (planG 48 n 0 u d)[k].row = r) (hc : (c : Int) ∈ (planG 48 n 0 u d)[k].down) : cell (((planG 48 n 0 u d).take i).foldl strikeG (startG [])).d r c = false := by
  have hP := (m.plan hn hn2).ok
  have hA := plan_apart (n := n) (us := u) (ds := d) (y := 0) hn m.wu
  have hkk := hP _ (List.getElem_mem hk)
  have hb := hkk.bd _ hc
  have hrr := hkk.row
  rw [fold_dn (by omega) (by omega) _ (start_ok []) fun k hk => hP k (List.mem_of_mem_take hk), show (startG []).d = blankD 48 12 from rfl, cell_blank, Bool.false_or]
  unfold byDn
  rw [List.any_eq_false]
  intro s hs h
  obtain ⟨j, hj, rfl⟩ := List.mem_take_iff_getElem.1 hs
  have hjk : j < k := by omega
  have hap := List.pairwise_iff_getElem.1 hA j k (by omega) hk hjk
  simp only [Bool.and_eq_true, decide_eq_true_eq] at h
  exact (hap (by have := h.1; simp only [startG] at this; omega)).2 _ h.2.1 hc
theorem size_pos {n : Nat} (hn : 1 ≤ n) : ∀ {us ds : List (List Bool)} {y : Nat}, ∀ s ∈ planG 48 n y us ds, 1 ≤ size s
  | u :: us, d :: ds, y, s, h => by
    rcases List.mem_append.1 h with h | h
    · obtain ⟨c, hc, rfl⟩ := List.mem_map.1 h
      rw [size_struck]
      exact (chunkG_pos hn _ _ c hc).1
    · exact size_pos hn s h
  | [], _, _, s, h => by simp [planG] at h
  | _ :: _, [], _, s, h => by simp [planG] at h
/-! what scanning finds -/
theorem dif_mem {off y : Int} : ∀ (a b : List Bool) (x : Nat) (q : Int × Int), q ∈ dif off y x a b → ∃ i : Nat, q = (off + ((x + i : Nat) : Int), y) ∧ ∃ p r, a[i]? = some p ∧ b[i]? = some r ∧ p ≠ r
  | a :: r, b :: s, x, q, h => by
    unfold dif at h
    have key : q ∈ dif off y (x + 1) r s → ∃ i : Nat, q = (off + ((x + i : Nat) : Int), y) ∧ ∃ p t, (a :: r)[i]? = some p ∧ (b :: s)[i]? = some t ∧ p ≠ t := fun h => by
      obtain ⟨i, h1, h2⟩ := dif_mem r s (x + 1) q h
      exact ⟨i + 1, by rw [h1, show x + 1 + i = x + (i + 1) by omega], by simpa using h2⟩
    split at h
    · rename_i hne
      rcases List.mem_cons.1 h with rfl | h
      · exact ⟨0, by simp, a, b, rfl, rfl, hne⟩
      · exact key h
    · exact key h
  | [], _, _, _, h => by simp [dif] at h
  | _ :: _, [], _, _, h => by simp [dif] at h
theorem dif_pw {off y : Int} : ∀ (a b : List Bool) (x : Nat), (dif off y x a b).Pairwise fun p q => p.2 = q.2 ∧ p.1 < q.1
  | a :: r, b :: s, x => by
    unfold dif
    split
    · refine List.pairwise_cons.2 ⟨fun q hq => ?_, dif_pw r s (x + 1)⟩
      obtain ⟨i, rfl, _⟩ := dif_mem _ _ _ _ hq
      exact ⟨rfl, by dsimp only; omega⟩
    · exact dif_pw r s (x + 1)
  | [], _, _ => by simp [dif]
  | _ :: _, [], _ => by simp [dif]
theorem dif_nil {off y : Int} : ∀ (a b : List Bool) (x : Nat), a.length = b.length → (dif off y x a b = [] ↔ a = b)
  | a :: r, b :: s, x, h => by
    have ih := dif_nil (off := off) (y := y) r s (x + 1) (by simpa using h)
    unfold dif
    by_cases e : a = b
    · subst e; simp [ih]
    · simp [e]
  | [], [], _, _ => by simp [dif]
  | [], _ :: _, _, h => by simp at h
  | _ :: _, [], _, h => by simp at h
def bef (p q : Int × Int) : Prop := p.2 < q.2 ∨ p.2 = q.2 ∧ p.1 < q.1
theorem scan_mem {w : Nat} : ∀ (us ds us' ds' : List (List Bool)) (y : Nat) (q : Int × Int), q ∈ scanG w y us ds us' ds' → ∃ j i : Nat, (q = ((i : Int), ((y + j : Nat) : Int)) ∧ ∃ a b p r, us[j]? = some a ∧ us'[j]? = some b ∧ a[i]? = some p ∧ b[i]? = some r ∧ p ≠ r) ∨ (q = (((w + i : Nat) : Int), ((y + j : Nat) : Int)) ∧ ∃ a b p r, ds[j]? = some a ∧ ds'[j]? = some b ∧ a[i]? = some p ∧ b[i]? = some r ∧ p ≠ r)
  | u :: us, d :: ds, u' :: us', d' :: ds', y, q, h => by
    rw [scanG] at h
    rcases List.mem_append.1 h with h | h
    · rcases List.mem_append.1 h with h | h
      · obtain ⟨i, h1, p, r, h2, h3, h4⟩ := dif_mem _ _ _ _ h
        exact ⟨0, i, .inl ⟨by rw [h1]; simp, u, u', p, r, rfl, rfl, h2, h3, h4⟩⟩
      · obtain ⟨i, h1, p, r, h2, h3, h4⟩ := dif_mem _ _ _ _ h
        exact ⟨0, i, .inr ⟨by rw [h1]; simp, d, d', p, r, rfl, rfl, h2, h3, h4⟩⟩
    · obtain ⟨j, i, h⟩ := scan_mem us ds us' ds' (y + 1) q h
      refine ⟨j + 1, i, ?_⟩
      rw [show y + (j + 1) = y + 1 + j by omega]
      simpa using h
  | [], _, _, _, _, _, h => by simp [scanG] at h
  | _ :: _, [], _, _, _, _, h => by simp [scanG] at h
  | _ :: _, _ :: _, [], _, _, _, h => by simp [scanG] at h
  | _ :: _, _ :: _, _ :: _, [], _, _, h => by simp [scanG] at h
theorem scan_pw {w : Nat} : ∀ (us ds us' ds' : List (List Bool)) (y : Nat), Wid w us → (scanG w y us ds us' ds').Pairwise bef
  | u :: us, d :: ds, u' :: us', d' :: ds', y, hu => by
    rw [scanG]
    refine List.pairwise_append.2 ⟨List.pairwise_append.2 ⟨(dif_pw _ _ _).imp .inr, (dif_pw _ _ _).imp .inr, fun p hp q hq => ?_⟩, scan_pw us ds us' ds' (y + 1) fun x hx => hu x (List.mem_cons_of_mem _ hx), fun p hp q hq => ?_⟩
    · obtain ⟨i, rfl, a, b, h1, _⟩ := dif_mem _ _ _ _ hp
      obtain ⟨j, rfl, _⟩ := dif_mem _ _ _ _ hq
      have := (List.getElem?_eq_some_iff.1 h1).1
      rw [hu u List.mem_cons_self] at this
      exact .inr ⟨rfl, by dsimp only; omega⟩
    · have hp2 : p.2 = (y : Int) := by
        rcases List.mem_append.1 hp with hp | hp
        · obtain ⟨i, rfl, _⟩ := dif_mem _ _ _ _ hp; rfl
        · obtain ⟨i, rfl, _⟩ := dif_mem _ _ _ _ hp; rfl
      obtain ⟨j, i, ⟨rfl, _⟩ | ⟨rfl, _⟩⟩ := scan_mem _ _ _ _ _ _ hq
      · exact .inl (by rw [hp2]; dsimp only; omega)
      · exact .inl (by rw [hp2]; dsimp only; omega)
  | [], _, _, _, _, _ => by simp [scanG]
  | _ :: _, [], _, _, _, _ => by simp [scanG]
  | _ :: _, _ :: _, [], _, _, _ => by simp [scanG]
  | _ :: _, _ :: _, _ :: _, [], _, _ => by simp [scanG]
theorem scan_nil {w : Nat} : ∀ (us ds us' ds' : List (List Bool)) (y : Nat), us.length = us'.length → us.length = ds.length → us.length = ds'.length → Wid w us → Wid w us' → Wid w ds → Wid w ds' → (scanG w y us ds us' ds' = [] ↔ us = us' ∧ ds = ds')
  | u :: us, d :: ds, u' :: us', d' :: ds', y, h1, h2, h3, a1, a2, a3, a4 => by
    have ih := scan_nil (w := w) us ds us' ds' (y + 1) (by simpa using h1) (by simpa using h2) (by simpa using h3) (fun x hx => a1 x (List.mem_cons_of_mem _ hx)) (fun x hx => a2 x (List.mem_cons_of_mem _ hx)) (fun x hx => a3 x (List.mem_cons_of_mem _ hx)) fun x hx => a4 x (List.mem_cons_of_mem _ hx)
    have b1 := dif_nil (off := 0) (y := y) u u' 0 (by rw [a1 u List.mem_cons_self, a2 u' List.mem_cons_self])
    have b2 := dif_nil (off := w) (y := y) d d' 0 (by rw [a3 d List.mem_cons_self, a4 d' List.mem_cons_self])
    rw [scanG, List.append_eq_nil_iff, List.append_eq_nil_iff, ih, b1, b2, List.cons.injEq, List.cons.injEq]
    constructor
    · rintro ⟨⟨h1, h2⟩, h3, h4⟩; exact ⟨⟨h1, h3⟩, h2, h4⟩
    · rintro ⟨⟨h1, h3⟩, h2, h4⟩; exact ⟨⟨h1, h2⟩, h3, h4⟩
  | [], [], [], [], _, _, _, _, _, _, _, _ => by simp [scanG]
  | [], [], [], _ :: _, _, _, _, h, _, _, _, _ => by simp at h
  | [], [], _ :: _, _, _, h, _, _, _, _, _, _ => by simp at h
  | [], _ :: _, _, _, _, _, h, _, _, _, _, _ => by simp at h
  | _ :: _, [], _, _, _, _, h, _, _, _, _, _ => by simp at h
  | _ :: _, _ :: _, [], _, _, h, _, _, _, _, _, _ => by simp at h
  | _ :: _, _ :: _, _ :: _, [], _, _, _, h, _, _, _, _ => by simp at h
/-! troubles exchanged -/
theorem swap_split {α : Type} {l : List α} {i k : Nat} (hik : i < k) (hk : k < l.length) : ∃ A M B, l = A ++ l[i] :: (M ++ l[k] :: B) ∧ (l.set i l[k]).set k l[i] = A ++ l[k] :: (M ++ l[i] :: B) ∧ (∀ x ∈ M, ∃ n, ∃ h : n < l.length, i < n ∧ n < k ∧ l[n] = x) := by
  refine ⟨l.take i, (l.drop (i + 1)).take (k - (i + 1)), l.drop (k + 1), ?_, ?_, fun x hx => ?_⟩
  · have e1 : l = l.take i ++ l.drop i := (List.take_append_drop i l).symm
    have e2 : l.drop i = l[i] :: l.drop (i + 1) := List.drop_eq_getElem_cons (by omega)
    have e3 : l.drop (i + 1) = (l.drop (i + 1)).take (k - (i + 1)) ++ (l.drop (i + 1)).drop (k - (i + 1)) := (List.take_append_drop _ _).symm
    have e4 : (l.drop (i + 1)).drop (k - (i + 1)) = l[k] :: l.drop (k + 1) := by
      rw [List.drop_drop, show i + 1 + (k - (i + 1)) = k by omega]; exact List.drop_eq_getElem_cons hk
    conv => lhs; rw [e1, e2, e3, e4]
  · refine List.ext_getElem? fun n => ?_
    have la : (l.take i).length = i := by rw [List.length_take]; omega
    have lm : ((l.drop (i + 1)).take (k - (i + 1))).length = k - (i + 1) := by rw [List.length_take, List.length_drop]; omega
    by_cases h1 : n < i
    · rw [List.getElem?_set_ne (by omega), List.getElem?_set_ne (by omega), List.getElem?_append_left (by omega), List.getElem?_take, if_pos h1]
    · rw [List.getElem?_append_right (by omega), la]
      by_cases h2 : n = i
      · subst h2
        rw [List.getElem?_set_ne (by omega), List.getElem?_set_self (by omega), Nat.sub_self]; rfl
      · rw [show n - i = (n - (i + 1)) + 1 by omega, List.getElem?_cons_succ]
        by_cases h3 : n < k
        · rw [List.getElem?_set_ne (by omega), List.getElem?_set_ne (by omega), List.getElem?_append_left (by omega), List.getElem?_take, if_pos (by omega), List.getElem?_drop, show i + 1 + (n - (i + 1)) = n by omega]
        · rw [List.getElem?_append_right (by omega), lm]
          by_cases h4 : n = k
          · subst h4
            rw [List.getElem?_set_self (by simpa using hk), show n - (i + 1) - (n - (i + 1)) = 0 by omega]; rfl
          · rw [List.getElem?_set_ne (by omega), List.getElem?_set_ne (by omega), show n - (i + 1) - (k - (i + 1)) = (n - (k + 1)) + 1 by omega, List.getElem?_cons_succ, List.getElem?_drop, show k + 1 + (n - (k + 1)) = n by omega]
  · obtain ⟨j, hj, rfl⟩ := List.mem_iff_getElem.1 hx
    rw [List.length_take, List.length_drop] at hj
    refine ⟨i + 1 + j, by omega, by omega, by omega, ?_⟩
    rw [List.getElem_take, List.getElem_drop]
theorem swap_at {l : List Tr} {i k : Nat} (hik : i < k) (hk : k < l.length) (h1 : ∀ n (h : n < l.length), i < n → n ≤ k → l[n].pl ≠ l[i].pl) (h2 : ∀ n (h : n < l.length), i < n → n < k → l[n].pl ≠ l[k].pl) (j : Nat) : trAt ((l.set i l[k]).set k l[i]) j = trAt l j := by
  obtain ⟨A, M, B, e1, e2, e3⟩ := swap_split hik hk
  rw [e2]
  conv => rhs; rw [e1]
  unfold trAt
  simp only [List.filter_append, List.filter_cons, decide_eq_true_eq]
  have hpq := h1 k hk hik (Nat.le_refl _)
  by_cases p : l[i].pl = (j : Int)
  · have q : ¬ l[k].pl = (j : Int) := fun e => hpq (e.trans p.symm)
    have hM : M.filter (fun t => decide (t.pl = (j : Int))) = [] := by
      rw [List.filter_eq_nil_iff]
      intro x hx
      obtain ⟨n, hn, n1, n2, rfl⟩ := e3 x hx
      simp only [decide_eq_true_eq]
      intro e; exact h1 n hn n1 (by omega) (e.trans p.symm)
    simp [p, q, hM]
  · by_cases q : l[k].pl = (j : Int)
    · have hM : M.filter (fun t => decide (t.pl = (j : Int))) = [] := by
        rw [List.filter_eq_nil_iff]
        intro x hx
        obtain ⟨n, hn, n1, n2, rfl⟩ := e3 x hx
        simp only [decide_eq_true_eq]
        intro e; exact h2 n hn n1 n2 (e.trans q.symm)
      simp [p, q, hM]
    · simp [p, q]
theorem run_congr {l l' : List Tr} (h : ∀ j, trAt l' j = trAt l j) : ∀ (P : List Stk) (i : Nat) (s : Em), runG l' i P s = runG l i P s
  | [], _, _ => rfl
  | k :: P, i, s => by unfold runG; rw [h i, run_congr h P]
end Go.Proofs.Ytgdcogoacnghkaa.N
