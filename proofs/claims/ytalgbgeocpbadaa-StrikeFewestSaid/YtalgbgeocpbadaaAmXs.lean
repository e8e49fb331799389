/-
  Settled states: what is not live is forgotten, objects are numbered anew.
-/
import Derived.Test.YtalgbgeocpbadaaAmX
namespace Go.Proofs.Ytalgbgeocpbadaa.Am
set_option linter.unusedSimpArgs false
set_option linter.unusedVariables false
set_option linter.unusedSectionVars false
open Go.RowKit
/-! ### settled -/
theorem sGen_get {f : Nat → Row} : ∀ {n p i : Nat}, (sGen f n p)[i]? = if i < n then some (f (p + i)) else none
  | 0, p, i => by simp [sGen]
  | n + 1, p, 0 => by simp [sGen]
  | n + 1, p, i + 1 => by
    simp only [sGen, List.getElem?_cons_succ, sGen_get]
    rw [show p + (i + 1) = p + 1 + i by omega]
    by_cases h : i < n <;> simp [h]
theorem sGen_len {f : Nat → Row} : ∀ {n p : Nat}, (sGen f n p).length = n
  | 0, p => rfl
  | n + 1, p => by simp [sGen, sGen_len]
theorem sVs_get {live ks : List Nat} {c0 : Nat} {h : Heap} : ∀ {vs : List PV} {i k : Nat}, (sVs live ks c0 h i vs).getD k .undef = .undef ∨ (sVs live ks c0 h i vs).getD k .undef = renV ks c0 h (vs.getD k .undef)
  | [], i, k => .inl (by simp [sVs])
  | v :: vs, i, 0 => by
    simp only [sVs, List.getD_cons_zero]
    split
    · exact .inr rfl
    · exact .inl rfl
  | v :: vs, i, k + 1 => by
    simp only [sVs, List.getD_cons_succ]
    exact sVs_get
def sJ (ks : List Nat) (c0 p : Nat) : Option Nat := if p < c0 then none else ks[p - c0]?
section
variable {P : Program} {B : Nat} {Z0 : Nat → Prop} {G G' : Gh} {h h' : Heap} {w w' : World}
theorem renO_arr {ks : List Nat} {c0 : Nat} {ob : Ob} {sz ver : Nat} {fr : Bool} {es : List PV} (he : renO ks c0 h ob = .arr sz ver fr es) : ∃ ver0, ob = .arr sz ver0 fr es ∧ es.all noRefE = true ∧ ver = 0 := by
  cases ob with
  | dead => cases he
  | var cs => simp only [renO] at he; split at he <;> cases he
  | arr s v f e =>
    simp only [renO] at he
    split at he
    · rename_i hn; cases he; exact ⟨v, rfl, hn, rfl⟩
    · cases he
theorem renO_var {ks : List Nat} {c0 : Nat} {ob : Ob} {cs : List PV} (he : renO ks c0 h ob = .var cs) : ∃ cs0, ob = .var cs0 ∧ cs = cs0.map (ren ks c0 h) ∧ cs.all one = true := by
  cases ob with
  | dead => cases he
  | arr s v f e => simp only [renO] at he; split at he <;> cases he
  | var c =>
    simp only [renO] at he
    split at he
    · rename_i hn; cases he; exact ⟨c, rfl, rfl, hn⟩
    · cases he
theorem settle_rep (hr : HRep B Z0 G h w) {ks : List Nat} {c0 : Nat} (hok : sOk ks c0 h = true) :
    (∀ {n : Nat} {u : Value} {c : PV}, VRep G h w n u c → VRep (G.out (sJ ks c0)) (sHeap ks c0 h) w n u (ren ks c0 h c)) ∧ HRep B Z0 (G.out (sJ ks c0)) (sHeap ks c0 h) w := by
  unfold sOk at hok
  simp only [Bool.and_eq_true, Nat.ble_eq] at hok
  obtain ⟨hnd, hlen⟩ := hok
  have hnd := nodupN_spec hnd
  have hJ : ∀ {p k}, sJ ks c0 p = some k → c0 ≤ p ∧ ks[p - c0]? = some k := fun {p k} hj => by
    unfold sJ at hj
    split at hj
    · cases hj
    · exact ⟨by omega, hj⟩
  have hJ' : ∀ {i k}, ks[i]? = some k → sJ ks c0 (c0 + i) = some k := fun {i k} hi => by
    unfold sJ; rw [if_neg (by omega), show c0 + i - c0 = i by omega]; exact hi
  have hrow : ∀ {p k}, sJ ks c0 p = some k → (sHeap ks c0 h)[p]? = some (1, renO ks c0 h (h.getD k (0, .dead)).2) := fun {p k} hj => by
    obtain ⟨h1, h2⟩ := hJ hj
    have := (List.getElem?_eq_some_iff.1 h2).1
    unfold sHeap
    rw [sGen_get, if_pos (by omega), Nat.zero_add]
    unfold sRow
    rw [if_neg (by omega), h2]
  have hrow' : ∀ {p r}, (sHeap ks c0 h)[p]? = some r → r.2 = .dead ∨ ∃ k ob g0, sJ ks c0 p = some k ∧ h[k]? = some (g0, ob) ∧ r = (1, renO ks c0 h ob) := fun {p r} hp => by
    unfold sHeap at hp
    rw [sGen_get] at hp
    split at hp
    · cases hp
      rw [Nat.zero_add]
      unfold sRow
      split
      · exact .inl rfl
      · rename_i hpc
        cases hk : ks[p - c0]? with
        | none => exact .inl rfl
        | some k =>
          cases hh : h[k]? with
          | none => left; simp [List.getD_eq_getElem?_getD, hh, renO]
          | some r0 =>
            obtain ⟨g0, ob⟩ := r0
            refine .inr ⟨k, ob, g0, ?_, hh, by simp [List.getD_eq_getElem?_getD, hh]⟩
            unfold sJ; rw [if_neg hpc]; exact hk
    · cases hp
  have hnew : ∀ {p k y}, sJ ks c0 p = some k → (G.out (sJ ks c0)).β (p, y) = G.β (k, y) ∧ ((G.out (sJ ks c0)).R (p, y) ↔ G.R (k, y)) ∧ (G.out (sJ ks c0)).γ (p, y) = G.γ (k, y) ∧ (G.out (sJ ks c0)).σ (p, y) = G.σ (k, y) := fun {p k y} hj => by
    refine ⟨?_, ?_, ?_, ?_⟩ <;> simp only [Gh.out, hj]
  have hRJ : ∀ {p y}, (G.out (sJ ks c0)).R (p, y) → ∃ k, sJ ks c0 p = some k := fun {p y} hR => by
    cases hj : sJ ks c0 p with
    | some k => exact ⟨k, rfl⟩
    | none => simp only [Gh.out, hj] at hR
  have hval : ∀ {n : Nat} {u : Value} {c : PV}, VRep G h w n u c → VRep (G.out (sJ ks c0)) (sHeap ks c0 h) w n u (ren ks c0 h c) := by
    intro n u c hc
    cases c <;> simp only [ren] <;> (try exact mk_undef)
    case bool => obtain rfl := rep_bool hc; exact mk_bool
    case int => obtain rfl := rep_int hc; exact mk_int
    case str => obtain rfl := rep_str hc; exact mk_str
    case nils => obtain rfl := rep_nils hc; exact mk_nils
    case lit => cases n <;> (unfold VRep at hc ⊢; exact hc)
    case slc es => exact mk_slc (rep_slc (G := G) (h := h) hc)
    case own k g gl s o l =>
      cases hi : ks.idxOf? k with
      | none => exact mk_undef
      | some i =>
        have hj := hJ' (idx_get hi)
        have hc' := VRep.cell (m := D) (by refine ⟨?_, ?_, ?_⟩ <;> intros <;> simp) hc
        refine VRep.cell (n := D) (by refine ⟨?_, ?_, ?_⟩ <;> intros <;> simp) ?_
        unfold D at hc' ⊢; unfold VRep at hc' ⊢
        obtain ⟨a, c, q0, q1, q2, q3, gn, ob, q4, q5, q6⟩ := hc'
        have hgd : h.getD k (0, .dead) = (gn, ob) := by simp [List.getD_eq_getElem?_getD, q4]
        refine ⟨a, c, q0, q1, q2, q3, _, _, hrow hj, ?_, fun e sz ver fr es he => ?_⟩
        · split <;> omega
        · have hg : gn = g := by
            rw [hgd] at e
            by_cases hg : gn = g
            · exact hg
            · simp [hg] at e
          rw [hgd] at he
          obtain ⟨ver0, h1, _, _⟩ := renO_arr he
          obtain ⟨q7, q8⟩ := q6 hg _ _ _ _ h1
          refine ⟨q7, fun e2 => ?_⟩
          obtain ⟨q9, q10, q11⟩ := q8 e2
          obtain ⟨a1, a2, a3, a4⟩ := hnew (y := none) hj
          rw [show (G.out (sJ ks c0)).β (root (c0 + i)) = G.β (root k) from a1, show (G.out (sJ ks c0)).γ (root (c0 + i)) = G.γ (root k) from a3]
          exact ⟨q9, fun hR => q10 (a2.1 hR), fun hR => q11 fun y => hR (a2.2 y)⟩
    case ptr k g o =>
      cases hi : ks.idxOf? k with
      | none => exact mk_undef
      | some i =>
        have hj := hJ' (idx_get hi)
        have hc' := VRep.cell (m := D) (by refine ⟨?_, ?_, ?_⟩ <;> intros <;> simp) hc
        refine VRep.cell (n := D) (by refine ⟨?_, ?_, ?_⟩ <;> intros <;> simp) ?_
        unfold D at hc' ⊢; unfold VRep at hc' ⊢
        obtain ⟨b, q0, gn, ob, q4, q5, q6⟩ := hc'
        have hgd : h.getD k (0, .dead) = (gn, ob) := by simp [List.getD_eq_getElem?_getD, q4]
        refine ⟨b, q0, _, _, hrow hj, ?_, fun e cs he => ?_⟩
        · split <;> omega
        · have hg : gn = g := by
            rw [hgd] at e
            by_cases hg : gn = g
            · exact hg
            · simp [hg] at e
          rw [hgd] at he
          obtain ⟨cs0, h1, _, _⟩ := renO_var he
          obtain ⟨a1, _⟩ := hnew (y := none) hj
          rw [show (G.out (sJ ks c0)).β (root (c0 + i)) = G.β (root k) from a1]
          exact q6 hg _ h1
  refine ⟨hval, hr.base, hr.zo, hr.zb, ?_, ?_, ?_, ?_, ?_⟩
  · rintro ⟨p, y⟩ hR
    obtain ⟨k, hk⟩ := hRJ hR
    obtain ⟨a1, a2, _⟩ := hnew (y := y) hk
    rw [a1]; exact hr.lv _ (a2.1 hR)
  · rintro p g o ho hlv y hR
    obtain ⟨k, hk⟩ := hRJ hR
    obtain ⟨a1, a2, _⟩ := hnew (y := y) hk
    rw [a1]
    rcases hrow' ho with h1 | ⟨k', ob, g0, h1, h2, h3⟩
    · simp only at h1; subst h1; cases hlv
    · rw [hk] at h1; cases h1
      cases h3
      refine hr.nz k g0 ob h2 ?_ y (a2.1 hR)
      cases ob with
      | dead => cases hlv
      | var cs => rfl
      | arr s v f e => simp only [renO] at hlv; split at hlv <;> first | exact hlv | cases hlv
  · rintro p g sz ver es ho y hR
    obtain ⟨k, hk⟩ := hRJ hR
    obtain ⟨a1, a2, _⟩ := hnew (y := y) hk
    rw [a1]
    rcases hrow' ho with h1 | ⟨k', ob, g0, h1, h2, h3⟩
    · cases h1
    · rw [hk] at h1; cases h1
      simp only [Prod.mk.injEq] at h3
      obtain ⟨ver0, h4, _, _⟩ := renO_arr h3.2.symm
      subst h4
      exact hr.fz k g0 _ _ _ h2 y (a2.1 hR)
  · rintro ⟨p1, y1⟩ ⟨p2, y2⟩ h1 h2 he
    obtain ⟨k1, hk1⟩ := hRJ h1
    obtain ⟨k2, hk2⟩ := hRJ h2
    obtain ⟨a1, a2, _⟩ := hnew (y := y1) hk1
    obtain ⟨b1, b2, _⟩ := hnew (y := y2) hk2
    have := hr.inj _ _ (a2.1 h1) (b2.1 h2) (by rw [← a1, ← b1]; exact he)
    simp only [Prod.mk.injEq] at this
    obtain ⟨rfl, rfl⟩ := this
    obtain ⟨c1, c2⟩ := hJ hk1
    obtain ⟨d1, d2⟩ := hJ hk2
    have := nodup_get hnd c2 d2
    rw [show p1 = p2 by omega]
  · rintro p g o ho
    rcases hrow' ho with h1 | ⟨k, ob, g0, hk, h2, h3⟩
    · simp only at h1; subst h1; trivial
    · simp only [Prod.mk.injEq] at h3
      obtain ⟨rfl, rfl⟩ := h3
      have hob := hr.ob k _ _ h2
      obtain ⟨a1, a2, a3, a4⟩ := hnew (y := none) hk
      cases hro : renO ks c0 h ob with
      | dead => trivial
      | var cs =>
        obtain ⟨cs0, rfl, rfl, hone⟩ := renO_var hro
        unfold ORep at hob ⊢
        obtain ⟨o1, us, T, o2, o3, o4⟩ := hob
        refine ⟨a2.2 o1, us, T, by rw [show (G.out (sJ ks c0)).β (root p) = G.β (root k) from a1]; exact o2, by simpa using o3, fun i c hc => ?_⟩
        rw [List.getElem?_map] at hc
        obtain ⟨c1, hc1, rfl⟩ := Option.map_eq_some_iff.1 hc
        obtain ⟨u, o5, o6⟩ := o4 i c1 hc1
        exact ⟨u, o5, List.all_eq_true.1 hone _ (List.mem_map.2 ⟨c1, List.mem_of_getElem? hc1, rfl⟩), hval o6.2⟩
      | arr sz ver fr es =>
        obtain ⟨ver0, rfl, hnr, rfl⟩ := renO_arr hro
        unfold ORep at hob ⊢
        rw [show (G.out (sJ ks c0)).β (root p) = G.β (root k) from a1, show (G.out (sJ ks c0)).γ (root p) = G.γ (root k) from a3]
        obtain ⟨o1, o2, o3, o4, o5⟩ := hob
        refine ⟨o1, o2, o3, fun hR => ?_, fun hR => o5 fun y => hR (a2.2 y)⟩
        obtain ⟨us, T, o6, o7, o8⟩ := o4 (a2.1 hR)
        refine ⟨us, T, o6, o7, fun i e he => ?_⟩
        obtain ⟨o9, o10⟩ := o8 i e he
        refine ⟨o9, fun j c hc => ?_⟩
        obtain ⟨u, o11, o12⟩ := o10 j c hc
        refine ⟨u, o11, ?_⟩
        have hnr' : (pureC c || isU c) = true := List.all_eq_true.1 (show (ecells e).all (fun c => pureC c || isU c) = true from List.all_eq_true.1 hnr e (List.mem_of_getElem? he)) c (List.mem_of_getElem? hc)
        cases c
        case uslc ns =>
          unfold CRep NRep at o12 ⊢
          obtain ⟨b1, b2, b3, b4⟩ := hnew (y := some (i, j)) hk
          rw [b1, b2, b3, b4]
          exact o12
        all_goals
          unfold CRep at o12 ⊢
          exact ⟨o12.1, prep_vrep o12.1 (vrep_pure (G := G) (h := h) (by simpa [isU] using hnr') o12.2)⟩
theorem renV_rep (hr : HRep B Z0 G h w) {ks : List Nat} {c0 : Nat} (hok : sOk ks c0 h = true) {u : Value} {c : PV} (hv : VRep G h w D u c) : VRep (G.out (sJ ks c0)) (sHeap ks c0 h) w D u (renV ks c0 h c) := by
  obtain ⟨hc, _⟩ := settle_rep hr hok
  by_cases ha : ∃ cs, c = .agg cs
  · obtain ⟨cs, rfl⟩ := ha
    obtain ⟨vs, rfl, h1, h2⟩ := rep_agg hv
    refine mk_agg ⟨by simpa using h1, fun i x hx => ?_⟩
    rw [List.getElem?_map] at hx
    obtain ⟨c1, hc1, rfl⟩ := Option.map_eq_some_iff.1 hx
    obtain ⟨u, h3, h4⟩ := h2 i c1 hc1
    exact ⟨u, h3, hc h4⟩
  · have : renV ks c0 h c = ren ks c0 h c := by
      cases c <;> first | rfl | exact absurd ⟨_, rfl⟩ ha
    rw [this]; exact hc hv
theorem settle_inv {W0 : Anch B} {vs : List Nat} {N : Nat} {vars : List PV} {a : Act} (hfree : ∀ {g : PV} {G : Gh} {h : Heap} {g' : PV} {G' : Gh} {h' : Heap} {w : World}, W0.psi g G h w → W0.psi g' G' h' w) (hi : SInv B Z0 W0 vs N vars h a w) {live ks : List Nat} {c0 : Nat} (hok : sOk ks c0 h = true) : SInv B Z0 W0 vs N (sVs live ks c0 h 0 vars) (sHeap ks c0 h) a w := by
  obtain ⟨G, i1, i2, i3, i4, i5⟩ := hi
  refine ⟨_, (settle_rep i1 hok).2, fun k s hs => ?_, i3, i4, hfree i5⟩
  obtain ⟨v, h1, h2⟩ := i2 k s hs
  refine ⟨v, h1, ?_⟩
  rcases sVs_get (live := live) (ks := ks) (c0 := c0) (h := h) (vs := vars) (i := 0) (k := k) with e | e
  · rw [e]; exact mk_undef
  · rw [e]; exact renV_rep i1 hok h2
end
section
variable {P : Program} {B : Nat} {Z0 : Nat → Prop} {W0 : Anch B} {vs : List Nat} {N : Nat} {vars : List PV} {h : Heap} {a : Act} {w : World}
/-- CODE, with states settled here and there -/
theorem code_soundS {nn : Nat} (hm : P.follows .mixedOrders = true) (hgf : ∀ {g g' : PV} {G : Gh} {h : Heap} {w : World}, W0.psi g G h w → W0.psi g' G h w) (hn : vs.Nodup) : ∀ (c : Code) (k k' : Nat) (x : XCode), (noLS x = true ∨ ∀ {g : PV} {G : Gh} {h : Heap} {g' : PV} {G' : Gh} {h' : Heap} {w : World}, W0.psi g G h w → W0.psi g' G' h' w) → compCode P vs N k c = some (strip x, k') → ∀ (Q' : XPost) (Q : Exit → Act → World → Prop) (vars : List PV) (h : Heap) (a : Act) (w : World),
    xwp (fns P) x Q' vars h → SInv B Z0 W0 vs N vars h a w → PostR B Z0 W0 vs N Q' Q → c.wpIn (fz none) nn P Q a w := by
  intro c
  induction c with
  | skip =>
    intro k k' x hns hc Q' Q vars h a w hx hi hq
    have hp := peel hgf hx hi
    clear hx hi
    obtain ⟨x, vars, h, hnf, hnm, ⟨hst, hns'⟩, hx, hi⟩ := hp
    rw [← hst] at hc
    rw [← hns'] at hns
    clear hns'
    simp only [compCode, Option.some.injEq, Prod.mk.injEq] at hc
    obtain ⟨hc, rfl⟩ := hc
    obtain rfl := st_skip hnf hnm hc.symm
    exact wpIn_skip (hq .normal _ _ _ _ hi hx)
  | label l =>
    intro k k' x hns hc Q' Q vars h a w hx hi hq
    have hp := peel hgf hx hi
    clear hx hi
    obtain ⟨x, vars, h, hnf, hnm, ⟨hst, hns'⟩, hx, hi⟩ := hp
    rw [← hst] at hc
    rw [← hns'] at hns
    clear hns'
    simp only [compCode, Option.some.injEq, Prod.mk.injEq] at hc
    obtain ⟨hc, rfl⟩ := hc
    obtain rfl := st_skip hnf hnm hc.symm
    exact wpIn_label (hq .normal _ _ _ _ hi hx)
  | exit id =>
    intro k k' x hns hc Q' Q vars h a w hx hi hq
    have hp := peel hgf hx hi
    clear hx hi
    obtain ⟨x, vars, h, hnf, hnm, ⟨hst, hns'⟩, hx, hi⟩ := hp
    rw [← hst] at hc
    rw [← hns'] at hns
    clear hns'
    simp only [compCode, Option.some.injEq, Prod.mk.injEq] at hc
    obtain ⟨hc, rfl⟩ := hc
    obtain rfl := st_exit hnf hnm hc.symm
    exact wpIn_exit (hq (.exit id) _ _ _ _ hi hx)
  | ret =>
    intro k k' x hns hc Q' Q vars h a w hx hi hq
    have hp := peel hgf hx hi
    clear hx hi
    obtain ⟨x, vars, h, hnf, hnm, ⟨hst, hns'⟩, hx, hi⟩ := hp
    rw [← hst] at hc
    rw [← hns'] at hns
    clear hns'
    simp only [compCode, Option.some.injEq, Prod.mk.injEq] at hc
    obtain ⟨hc, rfl⟩ := hc
    obtain rfl := st_ret hnf hnm hc.symm
    exact wpIn_ret (hq .ret _ _ _ _ hi hx)
  | region id ops d =>
    intro k k' x hns hc Q' Q vars h a w hx hi hq
    have hp := peel hgf hx hi
    clear hx hi
    obtain ⟨x, vars, h, hnf, hnm, ⟨hst, hns'⟩, hx, hi⟩ := hp
    rw [← hst] at hc
    rw [← hns'] at hns
    clear hns'
    simp only [compCode] at hc
    split at hc
    · rename_i xs k1 hc0
      simp only [Option.some.injEq, Prod.mk.injEq] at hc
      obtain ⟨hc, rfl⟩ := hc
      obtain rfl := st_reg hnf hnm hc.symm
      obtain ⟨hsi, hx⟩ := hx
      rw [show ops = ops.toList.toArray by simp]
      cases d with
      | false => exact plain_sound rfl rfl fyI_ok hn hc0 hsi hx (fun st a w hi hq' => hq .normal _ _ _ _ hi hq') hi
      | true => exact drawn_sound hm hn hc0 hsi hx (fun st a w hi hq' => hq .normal _ _ _ _ hi hq') hi
    · cases hc
  | seq c1 c2 ih1 ih2 =>
    intro k k' x hns hc Q' Q vars h a w hx hi hq
    have hp := peel hgf hx hi
    clear hx hi
    obtain ⟨x, vars, h, hnf, hnm, ⟨hst, hns'⟩, hx, hi⟩ := hp
    rw [← hst] at hc
    rw [← hns'] at hns
    clear hns'
    simp only [compCode] at hc
    split at hc
    · rename_i x1 k1 h1
      split at hc
      · rename_i x2 k2 h2
        simp only [Option.some.injEq, Prod.mk.injEq] at hc
        obtain ⟨hc, rfl⟩ := hc
        obtain ⟨x1, x2, rfl, rfl, rfl⟩ := st_seq hnf hnm hc.symm
        simp only [noLS, Bool.and_eq_true] at hns
        refine wpIn_seq (ih1 _ _ _ (hns.imp (·.1) fun h => h) h1 _ _ _ _ _ _ hx hi fun e vars h a w hi he => ?_)
        cases e with
        | normal => exact ih2 _ _ _ (hns.imp (·.2) fun h => h) h2 _ _ _ _ _ _ he hi hq
        | exit id => exact hq (.exit id) _ _ _ _ hi he
        | ret => exact hq .ret _ _ _ _ hi he
      · cases hc
    · cases hc
  | cond cd c1 c2 ih1 ih2 =>
    intro k k' x hns hc Q' Q vars h a w hx hi hq
    have hp := peel hgf hx hi
    clear hx hi
    obtain ⟨x, vars, h, hnf, hnm, ⟨hst, hns'⟩, hx, hi⟩ := hp
    rw [← hst] at hc
    rw [← hns'] at hns
    clear hns'
    simp only [compCode] at hc
    split at hc
    · rename_i x1 k1 h1
      split at hc
      · rename_i x2 k2 h2
        split at hc
        · rename_i dd hdd
          simp only [Option.some.injEq, Prod.mk.injEq] at hc
          obtain ⟨hc, rfl⟩ := hc
          obtain ⟨x1, x2, rfl, rfl, rfl⟩ := st_cond hnf hnm hc.symm
          simp only [noLS, Bool.and_eq_true] at hns
          obtain ⟨G, i1, i2, i3⟩ := id hi
          have hr := cond_rep hdd i2
          simp only [xwp] at hx
          split at hx
          · rename_i he
            rw [he] at hr
            exact wpIn_cond_true (rep_bool hr) (ih1 _ _ _ (hns.imp (·.1) fun h => h) h1 _ _ _ _ _ _ hx hi hq)
          · rename_i he
            rw [he] at hr
            exact wpIn_cond_false (rep_bool hr) (ih2 _ _ _ (hns.imp (·.2) fun h => h) h2 _ _ _ _ _ _ hx hi hq)
          · exact hx.elim
        · cases hc
      · cases hc
    · cases hc
  | block id c ih =>
    intro k k' x hns hc Q' Q vars h a w hx hi hq
    have hp := peel hgf hx hi
    clear hx hi
    obtain ⟨x, vars, h, hnf, hnm, ⟨hst, hns'⟩, hx, hi⟩ := hp
    rw [← hst] at hc
    rw [← hns'] at hns
    clear hns'
    simp only [compCode] at hc
    split at hc
    · rename_i x1 k1 h1
      simp only [Option.some.injEq, Prod.mk.injEq] at hc
      obtain ⟨hc, rfl⟩ := hc
      obtain ⟨x1, rfl, rfl⟩ := st_block hnf hnm hc.symm
      refine wpIn_block (ih _ _ x1 (show noLS x1 = true ∨ _ from hns) h1 _ _ _ _ _ _ hx hi fun e vars h a w hi he => ?_)
      cases e with
      | normal => exact hq .normal _ _ _ _ hi he
      | exit i =>
        simp only [xin] at he
        show Exit.inBlock id Q (.exit i) a w
        simp only [Exit.inBlock]
        split at he
        · rename_i e; rw [if_pos e]; exact hq .normal _ _ _ _ hi he
        · rename_i e; rw [if_neg e]; exact hq (.exit i) _ _ _ _ hi he
      | ret => exact hq .ret _ _ _ _ hi he
    · cases hc
  | loop c ih =>
    intro k k' x hns hc Q' Q vars h a w hx hi hq
    have hp := peel hgf hx hi
    clear hx hi
    obtain ⟨x, vars, h, hnf, hnm, ⟨hst, hns'⟩, hx, hi⟩ := hp
    rw [← hst] at hc
    rw [← hns'] at hns
    clear hns'
    simp only [compCode] at hc
    split at hc
    · rename_i x1 k1 h1
      simp only [Option.some.injEq, Prod.mk.injEq] at hc
      obtain ⟨hc, rfl⟩ := hc
      rcases st_loop hnf hnm hc.symm with ⟨x1, rfl, rfl⟩ | ⟨lv, c0, x1, rfl, rfl⟩
      · obtain ⟨n, hx⟩ := hx
        refine wpIn_loop_rounds n ?_
        induction n generalizing vars h a w with
        | zero => exact hx.elim
        | succ n ihn =>
          refine ih _ _ x1 (show noLS x1 = true ∨ _ from hns) h1 _ _ _ _ _ _ hx hi fun e vars h a w hi he => ?_
          cases e with
          | normal => exact ihn _ _ _ _ hi he
          | exit id => exact hq (.exit id) _ _ _ _ hi he
          | ret => exact hq .ret _ _ _ _ hi he
      · obtain ⟨n, hx⟩ := hx
        refine wpIn_loop_rounds n ?_
        induction n generalizing vars h a w with
        | zero => exact hx.elim
        | succ n ihn =>
          obtain ⟨hok, hx⟩ := hx
          have hfree : ∀ {g : PV} {G : Gh} {h : Heap} {g' : PV} {G' : Gh} {h' : Heap} {w : World}, W0.psi g G h w → W0.psi g' G' h' w := by
            rcases hns with h1 | h1
            · simp [noLS] at h1
            · exact h1
          refine ih _ _ _ (.inr hfree) h1 _ _ _ _ _ _ hx (settle_inv hfree hi hok) fun e vars h a w hi he => ?_
          cases e with
          | normal => exact ihn _ _ _ _ hi he
          | exit id => exact hq (.exit id) _ _ _ _ hi he
          | ret => exact hq .ret _ _ _ _ hi he
    · cases hc
  | scope c ih =>
    intro k k' x hns hc Q' Q vars h a w hx hi hq
    have hp := peel hgf hx hi
    clear hx hi
    obtain ⟨x, vars, h, hnf, hnm, ⟨hst, hns'⟩, hx, hi⟩ := hp
    rw [← hst] at hc
    rw [← hns'] at hns
    clear hns'
    simp only [compCode] at hc
    refine wpIn_scope_straight (ih _ _ _ hns hc _ _ _ _ _ _ hx hi fun e vars h a w hi he => ?_)
    cases e with
    | normal => exact hq .normal _ _ _ _ hi he
    | exit id => exact hq (.exit id) _ _ _ _ hi he
    | ret => exact hq .ret _ _ _ _ hi he
  | rangeFunc g ps a b iha ihb =>
    intro k k' x hns hc Q' Q vars h act w hx hi hq
    have hp := peel hgf hx hi
    clear hx hi
    obtain ⟨x, vars, h, hnf, hnm, ⟨hst, hns'⟩, hx, hi⟩ := hp
    rw [← hst] at hc
    rw [← hns'] at hns
    clear hns'
    simp only [compCode] at hc
    split at hc
    · rename_i x1 k1 h1
      split at hc
      · rename_i x2 k2 h2
        split at hc
        · rename_i gd hgd
          split at hc
          · rename_i hcond
            simp only [Option.some.injEq, Prod.mk.injEq] at hc
            obtain ⟨hc, rfl⟩ := hc
            obtain ⟨x1, x2, rfl, rfl, rfl⟩ := st_rfor hnf hnm hc.symm
            simp only [Bool.and_eq_true] at hcond
            exact range_sound hm hn h1 h2 hgd hcond.1.1 hcond.1.2 hcond.2 hx hi hq
          · cases hc
        · cases hc
      · cases hc
    · cases hc
  | _ =>
    intro k k' x hns hc
    simp only [compCode] at hc
    cases hc
/-- A FUNCTION, by its body; n: how many objects there may be -/
theorem fn_introS (hm : P.follows .mixedOrders = true) {f : FuncId} {X : XFn} {s0 : Nat} (hc : compFn P f = some { X with sites := s0, body := strip X.body }) {n : Nat} {szs : List Nat} {args : List PV} {r : PV} (hlen : args.length ≤ X.ntmps)
    (hx : xwp (fns P) X.body (xret X.results szs r) (X.vars.map fun s => args.getD s .undef) (List.replicate n (0, .dead))) : Fn P f szs args r := by
  unfold compFn at hc
  dsimp only at hc
  split at hc
  · cases hc
  · rename_i fn hfn
    split at hc
    · cases hc
    · rename_i c hbody
      split at hc
      · rename_i x k rs hcode hres
        split at hc
        · rename_i hcond
          obtain ⟨hnm, hnd, hall, hpar⟩ := hcond
          obtain ⟨nt, vs0, si0, re0, bo0⟩ := X
          simp only [Option.some.injEq, XFn.mk.injEq] at hc
          obtain ⟨rfl, rfl, rfl, rfl, hb0⟩ := hc
          rw [hb0] at hcode
          refine ⟨by unfold callable; rw [hfn]; simpa [hbody] using hnm, fun w Z vargs hz hargs => ?_⟩
          refine (callsIn_fz (ρ := none) (n := 0)).1 (callsIn_of_wp_marks hfn hbody trivial ?_)
          refine code_soundS hm (fun h => h) (nodupN_spec hnd) c 0 k bo0 (.inr fun h => h) hcode _ _ _ _ _ _ hx (enter_fn hall hz hargs hlen) fun e vars h a w' hi' he => ?_
          obtain ⟨he1, l, he2, he3, he4, rfl⟩ := he
          cases e with
          | normal => exact leave_fn hres hi' he2 he3 he4
          | ret => exact leave_fn hres hi' he2 he3 he4
          | exit id => exact he1.elim
        · cases hc
      · cases hc
/-- A FUNCTION THAT SHARES THE CALLER'S MEMORY, by its body; arrays may be frozen in it -/
theorem fn_introIF (hm : P.follows .mixedOrders = true) {f : FuncId} {off s0 : Nat} {X : XFn} (hc : compFnAt P f off = some { X with sites := s0, body := strip X.body }) (hns : noLS X.body = true) {first args cap : List PV} {r : PV} {h0 : Heap} {ws : List (Nat × Row)} (hlen : (first ++ args ++ cap).length ≤ X.ntmps) (ho : (first.all one && cap.all one) = true)
    (hx : xwp (fns P) X.body (xretI X.results r h0 ws) (X.vars.map fun s => (first ++ args ++ cap).getD s .undef) h0) : FI P (.fn (.func f) first cap) args h0 r ws := by
  unfold compFnAt at hc
  dsimp only at hc
  split at hc
  · cases hc
  · rename_i fn hfn
    split at hc
    · cases hc
    · rename_i c hbody
      split at hc
      · rename_i x k rs hcode hres
        split at hc
        · rename_i hcond
          obtain ⟨hnm, hnd, hall, hpar⟩ := hcond
          obtain ⟨nt, vs0, si0, re0, bo0⟩ := X
          simp only [Option.some.injEq, XFn.mk.injEq] at hc
          obtain ⟨rfl, rfl, rfl, rfl, hb0⟩ := hc
          rw [hb0] at hcode
          refine ⟨f, first, cap, rfl, by unfold callable; rw [hfn]; simpa [hbody] using hnm, ho, fun B Z0 G0 w vf va vc hr hf ha hcp => ?_⟩
          refine (callsIn_fz (ρ := none) (n := 0)).1 (callsIn_of_wp_marks hfn hbody trivial ?_)
          have hall' : LRep (VRep G0 h0 w D) (vf ++ va ++ vc) (first ++ args ++ cap) := by
            refine ⟨by simp [hf.1, ha.1, hcp.1], fun i p hp => ?_⟩
            by_cases h1 : i < first.length
            · rw [List.append_assoc, List.getElem?_append_left h1] at hp
              obtain ⟨u, q1, q2⟩ := hf.2 i p hp
              have := (Array.getElem?_eq_some_iff.1 q1).1
              exact ⟨u, by rw [Array.append_assoc, Array.getElem?_append_left this]; exact q1, q2⟩
            · rw [List.append_assoc, List.getElem?_append_right (by omega)] at hp
              by_cases h2 : i - first.length < args.length
              · rw [List.getElem?_append_left h2] at hp
                obtain ⟨u, q1, q2⟩ := ha.2 _ p hp
                have := (Array.getElem?_eq_some_iff.1 q1).1
                refine ⟨u, ?_, q2⟩
                rw [Array.append_assoc, Array.getElem?_append_right (by rw [hf.1]; omega), hf.1, Array.getElem?_append_left this]; exact q1
              · rw [List.getElem?_append_right (by omega)] at hp
                obtain ⟨u, q1, q2⟩ := hcp.2 _ p hp
                refine ⟨u, ?_, q2⟩
                rw [Array.append_assoc, Array.getElem?_append_right (by rw [hf.1]; omega), hf.1, Array.getElem?_append_right (by rw [ha.1]; omega), ha.1]; exact q1
          obtain ⟨hsz, hargs⟩ := hall'
          have hi : SInv B Z0 (Anch.inner B G0 h0 w hr.base) (varsOf fn c) fn.ntmps ((varsOf fn c).map fun s => (first ++ args ++ cap).getD s .undef) h0 { tmps := (vf ++ va ++ vc) ++ Array.replicate (fn.ntmps - (vf ++ va ++ vc).size) undef, defers := [] } w := by
            have hlen' : (first ++ args ++ cap).length ≤ fn.ntmps := hlen
            refine ⟨G0, hr, fun i s hs => ?_, by rw [Array.size_append, Array.size_replicate]; omega, DefOk.nil, Ext.refl, Bl.refl _ _⟩
            have hsN : s < fn.ntmps := by simpa [Nat.blt_eq] using List.all_eq_true.1 hall s (List.mem_of_getElem? hs)
            rw [List.getD_eq_getElem?_getD, List.getElem?_map, hs]
            simp only [Option.map_some, Option.getD_some]
            by_cases hsa : s < (first ++ args ++ cap).length
            · obtain ⟨u, h1, h2⟩ := hargs s _ (List.getElem?_eq_getElem hsa)
              refine ⟨u, ?_, ?_⟩
              · rw [Array.getElem?_append_left (by omega)]; exact h1
              · rw [List.getD_eq_getElem?_getD, List.getElem?_eq_getElem hsa]; exact h2
            · refine ⟨undef, ?_, ?_⟩
              · rw [Array.getElem?_append_right (by omega), Array.getElem?_replicate, if_pos (by omega)]
              · rw [List.getD_eq_getElem?_getD, List.getElem?_eq_none (by omega)]; exact mk_undef
          refine code_soundS hm (fun h => h) (nodupN_spec hnd) c off k bo0 (.inl hns) hcode _ _ _ _ _ _ hx hi fun e vars h a w' hi' he => ?_
          obtain ⟨he1, l, he2, he3, rfl, rfl⟩ := he
          have key : LeavesInM (fz none) 0 P fn a.tmps (fun e w' => ∃ u G', e = .returned u ∧ HRep B Z0 G' (upd h0 ws) w' ∧ Ext G0 h0 w G' (upd h0 ws) w' ∧ VRep G' (upd h0 ws) w' D u (oneV l) ∧ Bl B w w') a.defers .returning w' := by
            obtain ⟨G, i1, i2, i3, ⟨Ds, d1, d2, d3⟩, i5⟩ := hi'
            rw [d2]
            refine leaves_marks (m := w.heap.size) Ds w' d1 d3 fun w'' hs => ?_
            obtain ⟨j1, jx⟩ := i1.cells (w' := w'') (by rw [hs.size]; exact Nat.le_refl _) hs.cells
            have j2 : VarsR G (upd h0 ws) w'' (varsOf fn c) vars a := fun k s hk => by
              obtain ⟨v, h1, h2⟩ := i2 k s hk
              exact ⟨v, h1, h2.ext jx⟩
            obtain ⟨j5, j6⟩ := (Anch.inner B G0 h0 w hr.base).shut i1 i5 hs
            obtain ⟨u, q0, _, q1, q2⟩ := res_val (P := P) (fn := fn) j1 j2 hres he2
            refine ⟨u, q0, u, G, rfl, j1, j5, ?_, j6⟩
            by_cases h1 : l.length = 1
            · obtain ⟨p, rfl⟩ : ∃ p, l = [p] := List.length_eq_one_iff.1 h1
              exact q1 p rfl
            · obtain ⟨us, hu, r2, r3⟩ := q2 h1
              have e1 : oneV l = .tup l := by
                match l, h1 with
                | [], _ => rfl
                | [p], h1 => exact absurd rfl h1
                | _ :: _ :: _, _ => rfl
              rw [e1, hu]
              unfold D; unfold VRep
              refine ⟨us, rfl, r2, fun i p hp => ?_⟩
              obtain ⟨u, g1, g2⟩ := r3 i p hp
              have hfl : l.all flat1 = true := by simpa [h1] using he3
              exact ⟨u, g1, flat_rep (List.all_eq_true.1 hfl p (List.mem_of_getElem? hp)) g2⟩
          cases e with
          | normal => exact key
          | ret => exact key
          | exit id => exact he1.elim
        · cases hc
      · cases hc
end
end Go.Proofs.Ytalgbgeocpbadaa.Am
