/-
  .. the same, to the end: FUNCTIONS.
-/
import Derived.Test.YtalgbgeocpbadaaAmW
namespace Go.Proofs.Ytalgbgeocpbadaa.Am
set_option linter.unusedSimpArgs false
set_option linter.unusedVariables false
set_option linter.unusedSectionVars false
open Go.RowKit
theorem thC_na (kz : Nat × Nat) (gen : Nat → Nat) (c : PV) : (∀ cs, thC kz gen c ≠ .agg cs) ∧ (∀ cs, thC kz gen c ≠ .tup cs) ∧ ∀ f a b, thC kz gen c ≠ .fn f a b := by
  cases c <;> simp [thC]
theorem thComp_na {ks : Nat → Nat × Nat} {gen : Nat → Nat} {q : Nat} {c : PV} (h : ∀ cs, c ≠ .agg cs) : thComp ks gen q c = thC (ks q) gen c := by
  cases c <;> first | rfl | exact absurd rfl (h _)
section
variable {P : Program} {B : Nat} {Z0 : Nat → Prop} {G G' : Gh} {h h' : Heap} {w w' : World}
theorem comp_rep {lk : Look} {ks : Nat → Nat × Nat} {gen : Nat → Nat} {cells : List PV} (hc : ∀ {n : Nat} {u : Value} {p : Nat} {c : PV}, cells[p]? = some c → VRep G h w n u c → VRep G' h' w n u (thC (ks p) gen (rvC lk c))) {n q : Nat} {v : Value} {c : PV}
    (hq : ∀ (i : Nat) x, (ecells c)[i]? = some x → cells[q + i]? = some x) (hv : VRep G h w n v c) (m : Nat) : VRep G' h' w (m + 1) v (thComp ks gen q (rvE lk c)) := by
  rcases rvE_eq lk c with ⟨cs, rfl⟩ | ⟨hn, e⟩
  · simp only [rvE, thComp]
    cases n with
    | zero => unfold VRep at hv; exact hv.elim
    | succ n =>
      unfold VRep at hv ⊢
      obtain ⟨vs, rfl, h1, h2⟩ := hv
      refine ⟨vs, rfl, by rw [thCs_len]; simpa using h1, fun i x hi => ?_⟩
      rw [thCs_get, List.getElem?_map] at hi
      obtain ⟨c1, hc1, rfl⟩ := Option.map_eq_some_iff.1 hi
      obtain ⟨c0, hc0, rfl⟩ := Option.map_eq_some_iff.1 hc1
      obtain ⟨u, h3, h4⟩ := h2 i c0 hc0
      exact ⟨u, h3, (hc (hq i c0 hc0) h4).cell (thC_na _ _ _)⟩
  · rw [e, thComp_na (rvC_na lk c).1]
    exact (hc (hq 0 c (by rw [ecells_na hn]; rfl)) hv).cell (thC_na _ _ _)
theorem comps_rep {lk : Look} {ks : Nat → Nat × Nat} {gen : Nat → Nat} {cells : List PV} (hc : ∀ {n : Nat} {u : Value} {p : Nat} {c : PV}, cells[p]? = some c → VRep G h w n u c → VRep G' h' w n u (thC (ks p) gen (rvC lk c))) {n : Nat} (m : Nat) : ∀ {vs : List PV} {q : Nat} {U : Nat → Option Value},
    (∀ (i : Nat) x, (vs.flatMap ecells)[i]? = some x → cells[q + i]? = some x) → (∀ (i : Nat) p, vs[i]? = some p → ∃ u, U i = some u ∧ VRep G h w n u p) → ∀ (i : Nat) p, (thComps ks gen q (vs.map (rvE lk)))[i]? = some p → ∃ u, U i = some u ∧ VRep G' h' w (m + 1) u p
  | [], q, U, _, _, i, p, hp => by simp [thComps] at hp
  | c :: vs, q, U, hq, hU, i, p, hp => by
    simp only [List.map_cons, thComps] at hp
    cases i with
    | zero =>
      simp at hp; subst hp
      obtain ⟨u, h1, h2⟩ := hU 0 c rfl
      refine ⟨u, h1, comp_rep hc (fun i x hx => hq i x ?_) h2 m⟩
      rw [List.flatMap_cons, List.getElem?_append_left (List.getElem?_eq_some_iff.1 hx).1]; exact hx
    | succ i =>
      have hlen : (ecells (rvE lk c)).length = (ecells c).length := by
        rcases rvE_eq lk c with ⟨cs, rfl⟩ | ⟨hn, e⟩
        · simp [rvE, ecells]
        · rw [e, ecells_na (rvC_na lk c).1, ecells_na hn]; rfl
      rw [hlen] at hp
      refine comps_rep hc m (vs := vs) (q := q + (ecells c).length) (U := fun i => U (i + 1)) (fun i x hx => ?_) (fun i p hp => hU (i + 1) p (by simpa using hp)) i p (by simpa using hp)
      rw [Nat.add_assoc]
      refine hq _ x ?_
      rw [List.flatMap_cons, List.getElem?_append_right (by omega), Nat.add_sub_cancel_left]; exact hx
/-- results, taken out of their slots -/
theorem mapM_run {α : Type} {F : α → Sem Value} : ∀ (l : List α) (us : Nat → Value), (∀ i a, l[i]? = some a → (F a).run P w = .ok (us i) w) → (l.mapM F).run P w = .ok ((List.range l.length).map us) w
  | [], us, _ => by simp
  | x :: l, us, h => by
    rw [List.mapM_cons, Sem.run_bind, h 0 x rfl]
    simp only [Result.andThen]
    rw [Sem.run_bind, mapM_run l (fun i => us (i + 1)) fun i a ha => h (i + 1) a (by simpa using ha)]
    simp only [Result.andThen, Sem.run_pure, List.length_cons]
    congr 1
    rw [List.range_succ_eq_map]
    simp [Function.comp_def]
theorem optM_get {α β : Type} {f : α → Option β} {l : List α} {m : List β} (h : optM f l = some m) : l.length = m.length ∧ ∀ (i : Nat) a, l[i]? = some a → ∃ b, m[i]? = some b ∧ f a = some b := by
  obtain ⟨h1, h2⟩ := optM_some h
  exact ⟨h1, h2⟩
theorem resVs_get {lk : Look} {vars : List PV} : ∀ {rs : List (Nat × Option (Bool × Nat))} {l : List PV}, resVs lk vars rs = some l → rs.length = l.length ∧ ∀ (i : Nat) r, rs[i]? = some r → ∃ v, l[i]? = some v ∧ resV lk vars r = some v
  | [], l, h => by simp only [resVs, Option.some.injEq] at h; subst h; exact ⟨rfl, fun i r hr => by simp at hr⟩
  | r :: rs, l, h => by
    simp only [resVs] at h
    split at h
    · rename_i v vs h1 h2
      cases h
      obtain ⟨h3, h4⟩ := resVs_get h2
      refine ⟨by simp [h3], fun i x hx => ?_⟩
      cases i with
      | zero => simp at hx; subst hx; exact ⟨v, rfl, h1⟩
      | succ i => exact h4 i x (by simpa using hx)
    · cases h
theorem loadP_addr {lk : Look} {agg : Bool} {sz : Nat} {p r : PV} {v : Value} (hv : VRep G h w D v p) (hk : loadP lk agg sz p = some r) : ∃ a, v = .pointer (some a) := by
  cases p <;> (try (simp [loadP] at hk; done)) <;> (unfold D at hv; unfold VRep at hv)
  case ptr => obtain ⟨b, rfl, _⟩ := hv; exact ⟨_, rfl⟩
  case eptr => obtain ⟨b, f, rfl, _⟩ := hv; exact ⟨_, rfl⟩
  case nptr => obtain ⟨b, f, rfl, _⟩ := hv; exact ⟨_, rfl⟩
  case fptr => obtain ⟨b, f, rfl, _⟩ := hv; exact ⟨_, rfl⟩
def resF (tmps : Array Value) : ResultVar → Sem Value
  | .tmp t => pure (tmps.getD t undef)
  | .cell a t => do loadVar t (← asAddr (tmps.getD a undef))
theorem results_eq (fn : Func) (tmps : Array Value) : results fn tmps = (do
    let vs ← fn.results.mapM (resF tmps)
    pure (if h : vs.size = 1 then vs[0] else .tuple vs)) := by
  unfold results
  congr 2
def compRes (P : Program) (vs : List Nat) : ResultVar → Option (Nat × Option (Bool × Nat)) := fun r => match r with
  | .tmp t => (vs.idxOf? t).map fun v => (v, none)
  | .cell a t => match vs.idxOf? a, infoA P t, sizeA P t with
    | some v, some g, some s => some (v, some (g, s))
    | _, _, _ => none
theorem res_run (hr : HRep B Z0 G h w) {vs : List Nat} {vars : List PV} {a : Act} (hv : VarsR G h w vs vars a) {fn : Func} {rs : List (Nat × Option (Bool × Nat))} (hc : optM (compRes P vs) fn.results.toList = some rs) {l : List PV} (hl : resVs (lkOf h []) vars rs = some l) :
    ∃ us : Array Value, (fn.results.mapM (resF a.tmps)).run P w = .ok us w ∧ us.size = l.length ∧ ∀ (i : Nat) p, l[i]? = some p → ∃ u, us[i]? = some u ∧ VRep G h w D u p := by
  obtain ⟨c1, c2⟩ := optM_get hc
  obtain ⟨l1, l2⟩ := resVs_get hl
  have hall : ∀ i, ∃ u, ∀ (hi : i < fn.results.size), (resF a.tmps fn.results[i]).run P w = .ok u w ∧ ∃ p, l[i]? = some p ∧ VRep G h w D u p := fun i => by
    by_cases hi : i < fn.results.size
    · obtain ⟨r, h1, h2⟩ := c2 i fn.results[i] (by simp [hi])
      obtain ⟨p, h3, h4⟩ := l2 i r h1
      have slot : ∀ {t k}, vs.idxOf? t = some k → VRep G h w D (a.tmps.getD t undef) (vars.getD k .undef) := fun {t k} hk => by
        obtain ⟨v, q1, q2⟩ := hv k t (idx_get hk)
        rw [Array.getD_eq_getD_getElem?, q1]; exact q2
      cases hx : fn.results[i] with
      | tmp t =>
        rw [hx] at h2
        simp only [compRes] at h2
        obtain ⟨k, hk, rfl⟩ := Option.map_eq_some_iff.1 h2
        simp only [resV, Option.some.injEq] at h4
        exact ⟨a.tmps.getD t undef, fun _ => ⟨by rw [hx]; rfl, p, h3, h4 ▸ slot hk⟩⟩
      | cell ad t =>
        rw [hx] at h2
        simp only [compRes] at h2
        split at h2
        · rename_i k g s hk hg hs
          cases h2
          simp only [resV] at h4
          have hsl := slot hk
          obtain ⟨u, q1, q2⟩ := snd_loadP (P := P) hr hg hs hsl h4
          obtain ⟨ad', he⟩ := loadP_addr hsl h4
          refine ⟨u, fun _ => ⟨?_, p, h3, q2⟩⟩
          rw [he] at q1
          rw [hx]
          simp only [resF, he]
          exact q1
        · cases h2
    · exact ⟨undef, fun h => absurd h hi⟩
  refine ⟨((List.range fn.results.size).map fun i => (hall i).choose).toArray, ?_, ?_, fun i p hp => ?_⟩
  · have := mapM_run (P := P) (w := w) (F := resF a.tmps) fn.results.toList (fun i => (hall i).choose) fun i r hi => by
      obtain ⟨h1, h2⟩ := List.getElem?_eq_some_iff.1 hi
      have := ((hall i).choose_spec (by simpa using h1)).1
      rw [show fn.results[i]'(by simpa using h1) = r by simpa using h2] at this
      exact this
    rw [Array.mapM_eq_mapM_toList, map_eq_pure_bind, Sem.run_bind, this]
    simp
  · simp; rw [← l1, ← c1]; simp
  · have hi : i < fn.results.size := by
      have := (List.getElem?_eq_some_iff.1 hp).1
      rw [← l1, ← c1] at this; simpa using this
    obtain ⟨_, p', q1, q2⟩ := (hall i).choose_spec hi
    rw [hp] at q1; cases q1
    exact ⟨_, by simp [hi], q2⟩
/-- marks are shut one after another -/
theorem leaves_marks {F : Fence} {n m : Nat} {fn : Func} {tmps : Array Value} {R : Ending → World → Prop} : ∀ (Ds : List Nat) (w : World), Ds.Nodup → (∀ D ∈ Ds, m ≤ D ∧ w.heap[D]? = some (.deferred (some []))) → (∀ w', Shut m w w' → LeavesIn F n P fn tmps R [] .returning w') →
    LeavesInM F n P fn tmps R (Ds.map fun D => { target := .collected D, args := #[] }) .returning w
  | [], w, _, _, h => h w (Shut.refl _ _)
  | D :: Ds, w, hn, hD, h => by
    obtain ⟨h1, h2⟩ := List.nodup_cons.1 hn
    obtain ⟨h3, h4⟩ := hD D (by simp)
    refine ⟨by simp, .inl ⟨D, _, rfl, run_takeDeferred h4, ?_⟩⟩
    have hs : Shut m w (w.putObj D (.deferred none)) := Shut.put h4 rfl h3
    refine leaves_marks Ds _ h2 (fun D' hD' => ⟨(hD D' (by simp [hD'])).1, ?_⟩) fun w' hw' => h w' (hs.trans hw')
    rw [World.putObj_heap_other fun e => h1 (by rw [← e]; exact hD')]
    exact (hD D' (by simp [hD'])).2
/-- a value of results -/
theorem res_val {fn : Func} {vs : List Nat} {vars : List PV} {a : Act} (hr : HRep B Z0 G h w) (hv : VarsR G h w vs vars a) {rs : List (Nat × Option (Bool × Nat))} (hres : optM (compRes P vs) fn.results.toList = some rs) {l : List PV} (hl : resVs (lkOf h []) vars rs = some l) :
    ∃ u, (results fn a.tmps).run P w = .ok u w ∧ VRep G h w (D + 1) u (oneV l) ∧ ((∀ p, l = [p] → VRep G h w D u p) ∧ (l.length ≠ 1 → ∃ us : Array Value, u = .tuple us ∧ us.size = l.length ∧ ∀ (i : Nat) p, l[i]? = some p → ∃ u, us[i]? = some u ∧ VRep G h w D u p)) := by
  obtain ⟨us, r1, r2, r3⟩ := res_run (P := P) (fn := fn) hr hv hres hl
  refine ⟨if h : us.size = 1 then us[0] else .tuple us, by rw [results_eq, Sem.run_bind, r1]; rfl, ?_⟩
  by_cases h1 : us.size = 1
  · rw [dif_pos h1]
    obtain ⟨p, rfl⟩ : ∃ p, l = [p] := List.length_eq_one_iff.1 (by omega)
    obtain ⟨u, q1, q2⟩ := r3 0 p rfl
    rw [Array.getElem?_eq_getElem (by omega)] at q1
    cases q1
    exact ⟨q2.up, fun p' e => by cases e; exact q2, fun hne => absurd rfl hne⟩
  · rw [dif_neg h1]
    have e1 : oneV l = .tup l := by
      match l, r2 with
      | [], _ => rfl
      | [p], r2 => exact absurd r2 h1
      | _ :: _ :: _, _ => rfl
    refine ⟨?_, fun p e => by subst e; exact absurd r2 h1, fun _ => ⟨us, rfl, r2, r3⟩⟩
    rw [e1]
    unfold VRep
    exact ⟨us, rfl, r2, r3⟩
/-- at a function's end -/
theorem leave_fn {n : Nat} {fn : Func} {vs : List Nat} {N : Nat} {rs : List (Nat × Option (Bool × Nat))} {szs : List Nat} {Z : Nat → Prop} {vars : List PV} {a : Act} (hres : optM (compRes P vs) fn.results.toList = some rs) (hi : SInv w.heap.size Z (Anch.plain w) vs N vars h a w') {l : List PV}
    (he2 : resVs (lkOf h []) vars rs = some l) (he3 : nodupN (outIds (oneV l)) = true) (he4 : szsOk szs 0 ((comps (oneV l)).flatMap ecells) = true) :
    LeavesInM (fz none) n P fn a.tmps (fun e w' => ∃ v G, e = .returned v ∧ Bl w.heap.size w w' ∧ HRep w.heap.size Z G (resH szs (rvV (lkOf h []) (oneV l))) w' ∧ VRep G (resH szs (rvV (lkOf h []) (oneV l))) w' D v (thV (resK szs) (fun _ => 1) (rvV (lkOf h []) (oneV l)))) a.defers .returning w' := by
  obtain ⟨G, i1, i2, i3, ⟨Ds, d1, d2, d3⟩, i5⟩ := hi
  rw [d2]
  refine leaves_marks (m := w.heap.size) Ds w' d1 d3 fun w'' hs => ?_
  obtain ⟨j1, jx⟩ := i1.cells (w' := w'') (by rw [hs.size]; exact Nat.le_refl _) hs.cells
  have j2 : VarsR G h w'' vs vars a := fun k s hk => by
    obtain ⟨v, h1, h2⟩ := i2 k s hk
    exact ⟨v, h1, h2.ext jx⟩
  have j5 := (Anch.plain w).shut i1 i5 hs
  obtain ⟨u, q0, _, q1, q2⟩ := res_val (P := P) (fn := fn) j1 j2 hres he2
  obtain ⟨o1, o2⟩ := out_rep j1 (q := oneV l) (szs := szs) he3 he4
  refine ⟨u, q0, _, _, rfl, j5, o1, ?_⟩
  by_cases h1 : l.length = 1
  · obtain ⟨p, rfl⟩ : ∃ p, l = [p] := List.length_eq_one_iff.1 h1
    have q2 := q1 p rfl
    simp only [oneV] at o2 ⊢
    by_cases ht : ∃ vs, p = .tup vs
    · obtain ⟨vs, rfl⟩ := ht
      obtain ⟨ws, hw, hs, hws⟩ := rep_tup q2
      rw [hw]
      simp only [rvV, thV]
      unfold D; unfold VRep
      refine ⟨ws, rfl, by rw [thComps_len]; simpa using hs, comps_rep (cells := rcells (.tup vs)) o2 4 (q := 0) (U := fun i => ws[i]?) (fun i x hx => by rw [Nat.zero_add]; exact hx) hws⟩
    · have e1 : rvV (lkOf h []) p = rvE (lkOf h []) p := by
        cases p <;> first | rfl | exact absurd ⟨_, rfl⟩ ht
      have e2 : rcells p = ecells p := by
        cases p <;> first | (exact absurd ⟨_, rfl⟩ ht) | simp [rcells, comps]
      have e3 : thV (resK szs) (fun _ => 1) (rvE (lkOf h []) p) = thComp (resK szs) (fun _ => 1) 0 (rvE (lkOf h []) p) := by
        rcases rvE_eq (lkOf h []) p with ⟨cs, rfl⟩ | ⟨hn, e⟩
        · rfl
        · rw [e]
          have := (rvC_na (lkOf h []) p).2
          cases hz : rvC (lkOf h []) p <;> first | rfl | exact absurd hz (this _)
      rw [e1] at o2 ⊢
      rw [e3]
      exact comp_rep (cells := rcells p) (q := 0) o2 (fun i x hx => by rw [Nat.zero_add, e2]; exact hx) q2 5
  · obtain ⟨us, hu, r2, r3⟩ := q2 h1
    have e1 : oneV l = .tup l := by
      match l, h1 with
      | [], _ => rfl
      | [p], h1 => exact absurd rfl h1
      | _ :: _ :: _, _ => rfl
    rw [e1] at o2 ⊢
    rw [hu]
    simp only [rvV, thV] at o2 ⊢
    unfold D; unfold VRep
    refine ⟨us, rfl, by rw [thComps_len]; simpa using r2, comps_rep (cells := rcells (.tup l)) o2 4 (q := 0) (U := fun i => us[i]?) (fun i x hx => by rw [Nat.zero_add]; exact hx) r3⟩
/-- at a function's beginning -/
theorem enter_fn {n N : Nat} {vs : List Nat} (hall : vs.all (Nat.blt · N) = true) {Z : Nat → Prop} (hz : ∀ b, Z b → isC w b) {vargs : Array Value} {args : List PV} (hargs : LRep (VRep (G0 Z) [] w D) vargs args) (hlen : args.length ≤ N) :
    SInv w.heap.size Z (Anch.plain w) vs N (vs.map fun s => args.getD s .undef) (List.replicate n (0, .dead)) { tmps := vargs ++ Array.replicate (N - vargs.size) undef, defers := [] } w := by
  obtain ⟨hsz, hargs⟩ := hargs
  have hext : Ext (G0 Z) [] w (G0 Z) (List.replicate n (0, Ob.dead)) w := ⟨fun _ x => x, fun _ _ => rfl, fun k gn ob e => by simp at e⟩
  have hdead : ∀ {i g : Nat} {o : Ob}, (List.replicate n (0, Ob.dead))[i]? = some (g, o) → o = .dead := fun ho => by
    have := List.eq_of_mem_replicate (List.mem_of_getElem? ho)
    cases this; rfl
  have hr0 : HRep w.heap.size Z (G0 Z) (List.replicate n (0, Ob.dead)) w :=
    ⟨Nat.le_refl _, fun b hb => .inl hb, hz, fun _ hR => hR.elim, fun _ _ _ _ _ _ hR => hR.elim, fun _ _ _ _ _ _ _ hR => hR.elim, fun _ _ hR => hR.elim, fun i g o ho => by rw [hdead ho]; trivial⟩
  refine ⟨G0 Z, hr0, fun i s hs => ?_, by simp; omega, DefOk.nil, Bl.refl _ _⟩
  have hsN : s < N := by simpa [Nat.blt_eq] using List.all_eq_true.1 hall s (List.mem_of_getElem? hs)
  rw [List.getD_eq_getElem?_getD, List.getElem?_map, hs]
  simp only [Option.map_some, Option.getD_some]
  by_cases hsa : s < args.length
  · obtain ⟨u, h1, h2⟩ := hargs s _ (List.getElem?_eq_getElem hsa)
    refine ⟨u, ?_, ?_⟩
    · rw [Array.getElem?_append_left (by omega)]; exact h1
    · rw [List.getD_eq_getElem?_getD, List.getElem?_eq_getElem hsa]
      exact h2.ext hext
  · refine ⟨undef, ?_, ?_⟩
    · rw [Array.getElem?_append_right (by omega), Array.getElem?_replicate, if_pos (by omega)]
    · rw [List.getD_eq_getElem?_getD, List.getElem?_eq_none (by omega)]; exact mk_undef
/-- A FUNCTION, by its body -/
theorem fn_intro (hm : P.follows .mixedOrders = true) {f : FuncId} {X : XFn} (hc : compFn P f = some X) {szs : List Nat} {args : List PV} {r : PV} (hlen : args.length ≤ X.ntmps)
    (hx : xwp (fns P) X.body (xret X.results szs r) (X.vars.map fun s => args.getD s .undef) (List.replicate X.sites (0, .dead))) : Fn P f szs args r := by
  unfold compFn at hc
  dsimp only at hc
  split at hc
  · cases hc
  · rename_i fn hfn
    split at hc
    · cases hc
    · rename_i c hbody
      split at hc
      · rename_i x k rs hcode hres
        split at hc
        · rename_i hcond
          obtain ⟨hnm, hnd, hall, hpar⟩ := hcond
          cases hc
          refine ⟨by unfold callable; rw [hfn]; simpa [hbody] using hnm, fun w Z vargs hz hargs => ?_⟩
          refine (callsIn_fz (ρ := none) (n := 0)).1 (callsIn_of_wp_marks hfn hbody trivial ?_)
          refine code_sound hm (nodupN_spec hnd) c 0 k x hcode _ _ _ _ _ _ hx (enter_fn hall hz hargs hlen) fun e vars h a w' hi' he => ?_
          obtain ⟨he1, l, he2, he3, he4, rfl⟩ := he
          cases e with
          | normal => exact leave_fn hres hi' he2 he3 he4
          | ret => exact leave_fn hres hi' he2 he3 he4
          | exit id => exact he1.elim
        · cases hc
      · cases hc
def Anch.inner (B : Nat) (G0 : Gh) (h0 : Heap) (w0 : World) (hB : B ≤ w0.heap.size) : Anch B :=
  ⟨w0.heap.size, fun _ G h w => Ext G0 h0 w0 G h w ∧ Bl B w0 w, fun h => h.2.size, fun p x b => ⟨p.1.trans x, p.2.trans b⟩, fun r p s => ⟨p.1.trans (r.cells (by rw [s.size]; exact Nat.le_refl _) s.cells).2, p.2.shut hB s⟩⟩
/-- cells, or a struct of cells -/
def flat1 : PV → Bool
  | .agg cs => cs.all one
  | c => one c
theorem flat_rep {n m : Nat} {u : Value} {p : PV} (hf : flat1 p = true) (hv : VRep G h w n u p) : VRep G h w (m + 1) u p := by
  cases p
  case agg cs =>
    cases n with
    | zero => unfold VRep at hv; exact hv.elim
    | succ n =>
      unfold VRep at hv ⊢
      obtain ⟨vs, h1, h2⟩ := hv
      exact ⟨vs, h1, lrep_ones h2 hf⟩
  all_goals (first | (simp [flat1, one] at hf; done) | exact hv.cell (by refine ⟨?_, ?_, ?_⟩ <;> intros <;> simp))
/-- what an inner body's end gives -/
def xretI (rs : List (Nat × Option (Bool × Nat))) (r : PV) (h0 : Heap) (ws : List (Nat × Row)) : XPost := fun e vs h =>
  (match e with | .exit _ => False | _ => True) ∧ ∃ l, resVs (lkOf h []) vs rs = some l ∧ (l.length == 1 || l.all flat1) = true ∧ oneV l = r ∧ h = upd h0 ws
/-- A FUNCTION THAT SHARES THE CALLER'S MEMORY, by its body -/
theorem fn_introI (hm : P.follows .mixedOrders = true) {f : FuncId} {off : Nat} {X : XFn} (hc : compFnAt P f off = some X) {first args cap : List PV} {r : PV} {h0 : Heap} {ws : List (Nat × Row)} (hlen : (first ++ args ++ cap).length ≤ X.ntmps) (ho : (first.all one && cap.all one) = true)
    (hx : xwp (fns P) X.body (xretI X.results r h0 ws) (X.vars.map fun s => (first ++ args ++ cap).getD s .undef) h0) : FI P (.fn (.func f) first cap) args h0 r ws := by
  unfold compFnAt at hc
  dsimp only at hc
  split at hc
  · cases hc
  · rename_i fn hfn
    split at hc
    · cases hc
    · rename_i c hbody
      split at hc
      · rename_i x k rs hcode hres
        split at hc
        · rename_i hcond
          obtain ⟨hnm, hnd, hall, hpar⟩ := hcond
          cases hc
          refine ⟨f, first, cap, rfl, by unfold callable; rw [hfn]; simpa [hbody] using hnm, ho, fun B Z0 G0 w vf va vc hr hf ha hcp => ?_⟩
          refine (callsIn_fz (ρ := none) (n := 0)).1 (callsIn_of_wp_marks hfn hbody trivial ?_)
          have hall' : LRep (VRep G0 h0 w D) (vf ++ va ++ vc) (first ++ args ++ cap) := by
            refine ⟨by simp [hf.1, ha.1, hcp.1], fun i p hp => ?_⟩
            by_cases h1 : i < first.length
            · rw [List.append_assoc, List.getElem?_append_left h1] at hp
              obtain ⟨u, q1, q2⟩ := hf.2 i p hp
              have := (Array.getElem?_eq_some_iff.1 q1).1
              exact ⟨u, by rw [Array.append_assoc, Array.getElem?_append_left this]; exact q1, q2⟩
            · rw [List.append_assoc, List.getElem?_append_right (by omega)] at hp
              by_cases h2 : i - first.length < args.length
              · rw [List.getElem?_append_left h2] at hp
                obtain ⟨u, q1, q2⟩ := ha.2 _ p hp
                have := (Array.getElem?_eq_some_iff.1 q1).1
                refine ⟨u, ?_, q2⟩
                rw [Array.append_assoc, Array.getElem?_append_right (by rw [hf.1]; omega), hf.1, Array.getElem?_append_left this]; exact q1
              · rw [List.getElem?_append_right (by omega)] at hp
                obtain ⟨u, q1, q2⟩ := hcp.2 _ p hp
                refine ⟨u, ?_, q2⟩
                rw [Array.append_assoc, Array.getElem?_append_right (by rw [hf.1]; omega), hf.1, Array.getElem?_append_right (by rw [ha.1]; omega), ha.1]; exact q1
          obtain ⟨hsz, hargs⟩ := hall'
          have hi : SInv B Z0 (Anch.inner B G0 h0 w hr.base) (varsOf fn c) fn.ntmps ((varsOf fn c).map fun s => (first ++ args ++ cap).getD s .undef) h0 { tmps := (vf ++ va ++ vc) ++ Array.replicate (fn.ntmps - (vf ++ va ++ vc).size) undef, defers := [] } w := by
            have hlen' : (first ++ args ++ cap).length ≤ fn.ntmps := hlen
            refine ⟨G0, hr, fun i s hs => ?_, by rw [Array.size_append, Array.size_replicate]; omega, DefOk.nil, Ext.refl, Bl.refl _ _⟩
            have hsN : s < fn.ntmps := by simpa [Nat.blt_eq] using List.all_eq_true.1 hall s (List.mem_of_getElem? hs)
            rw [List.getD_eq_getElem?_getD, List.getElem?_map, hs]
            simp only [Option.map_some, Option.getD_some]
            by_cases hsa : s < (first ++ args ++ cap).length
            · obtain ⟨u, h1, h2⟩ := hargs s _ (List.getElem?_eq_getElem hsa)
              refine ⟨u, ?_, ?_⟩
              · rw [Array.getElem?_append_left (by omega)]; exact h1
              · rw [List.getD_eq_getElem?_getD, List.getElem?_eq_getElem hsa]; exact h2
            · refine ⟨undef, ?_, ?_⟩
              · rw [Array.getElem?_append_right (by omega), Array.getElem?_replicate, if_pos (by omega)]
              · rw [List.getD_eq_getElem?_getD, List.getElem?_eq_none (by omega)]; exact mk_undef
          refine code_sound hm (nodupN_spec hnd) c off k x hcode _ _ _ _ _ _ hx hi fun e vars h a w' hi' he => ?_
          obtain ⟨he1, l, he2, he3, rfl, rfl⟩ := he
          have key : LeavesInM (fz none) 0 P fn a.tmps (fun e w' => ∃ u G', e = .returned u ∧ HRep B Z0 G' (upd h0 ws) w' ∧ Ext G0 h0 w G' (upd h0 ws) w' ∧ VRep G' (upd h0 ws) w' D u (oneV l) ∧ Bl B w w') a.defers .returning w' := by
            obtain ⟨G, i1, i2, i3, ⟨Ds, d1, d2, d3⟩, i5⟩ := hi'
            rw [d2]
            refine leaves_marks (m := w.heap.size) Ds w' d1 d3 fun w'' hs => ?_
            obtain ⟨j1, jx⟩ := i1.cells (w' := w'') (by rw [hs.size]; exact Nat.le_refl _) hs.cells
            have j2 : VarsR G (upd h0 ws) w'' (varsOf fn c) vars a := fun k s hk => by
              obtain ⟨v, h1, h2⟩ := i2 k s hk
              exact ⟨v, h1, h2.ext jx⟩
            obtain ⟨j5, j6⟩ := (Anch.inner B G0 h0 w hr.base).shut i1 i5 hs
            obtain ⟨u, q0, _, q1, q2⟩ := res_val (P := P) (fn := fn) j1 j2 hres he2
            refine ⟨u, q0, u, G, rfl, j1, j5, ?_, j6⟩
            by_cases h1 : l.length = 1
            · obtain ⟨p, rfl⟩ : ∃ p, l = [p] := List.length_eq_one_iff.1 h1
              exact q1 p rfl
            · obtain ⟨us, hu, r2, r3⟩ := q2 h1
              have e1 : oneV l = .tup l := by
                match l, h1 with
                | [], _ => rfl
                | [p], h1 => exact absurd rfl h1
                | _ :: _ :: _, _ => rfl
              rw [e1, hu]
              unfold D; unfold VRep
              refine ⟨us, rfl, r2, fun i p hp => ?_⟩
              obtain ⟨u, g1, g2⟩ := r3 i p hp
              have hfl : l.all flat1 = true := by simpa [h1] using he3
              exact ⟨u, g1, flat_rep (List.all_eq_true.1 hfl p (List.mem_of_getElem? hp)) g2⟩
          cases e with
          | normal => exact key
          | ret => exact key
          | exit id => exact he1.elim
        · cases hc
      · cases hc
end
end Go.Proofs.Ytalgbgeocpbadaa.Am
