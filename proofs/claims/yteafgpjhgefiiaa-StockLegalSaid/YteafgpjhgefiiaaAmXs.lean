/-
  Settled states: what is not live is forgotten, objects are numbered anew.
-/
import Derived.Test.YteafgpjhgefiiaaAmX
namespace Go.Proofs.Yteafgpjhgefiiaa.Am
set_option linter.unusedSimpArgs false
set_option linter.unusedVariables false
set_option linter.unusedSectionVars false
open Go.RowKit
/-! ### settled -/
theorem sGen_get {f : Nat → Row} : ∀ {n p i : Nat}, (sGen f n p)[i]? = if i < n then some (f (p + i)) else none
  | 0, p, i => by simp [sGen]
  | n + 1, p, 0 => by simp [sGen]
  | n + 1, p, i + 1 => by
    simp only [sGen, List.getElem?_cons_succ, sGen_get]
    rw [show p + (i + 1) = p + 1 + i by omega]
    by_cases h : i < n <;> simp [h]
theorem sGen_len {f : Nat → Row} : ∀ {n p : Nat}, (sGen f n p).length = n
  | 0, p => rfl
  | n + 1, p => by simp [sGen, sGen_len]
theorem sVs_get {live ks : List Nat} {c0 : Nat} {h : Heap} : ∀ {vs : List PV} {i k : Nat}, (sVs live ks c0 h i vs).getD k .undef = .undef ∨ (sVs live ks c0 h i vs).getD k .undef = renV ks c0 h (vs.getD k .undef)
  | [], i, k => .inl (by simp [sVs])
  | v :: vs, i, 0 => by
    simp only [sVs, List.getD_cons_zero]
    split
    · exact .inr rfl
    · exact .inl rfl
  | v :: vs, i, k + 1 => by
    simp only [sVs, List.getD_cons_succ]
    exact sVs_get
def sJ (ks : List Nat) (c0 p : Nat) : Option Nat := if p < c0 then none else ks[p - c0]?
section
variable {P : Program} {B : Nat} {Z0 : Nat → Prop} {G G' : Gh} {h h' : Heap} {w w' : World}
theorem renO_arr {ks : List Nat} {c0 : Nat} {ob : Ob} {sz ver : Nat} {fr : Bool} {es : List PV} (he : renO ks c0 h ob = .arr sz ver fr es) : ∃ ver0, ob = .arr sz ver0 fr es ∧ es.all noRefE = true ∧ ver = 0 := by
  cases ob with
  | dead => cases he
  | var cs => simp only [renO] at he; split at he <;> cases he
  | arr s v f e =>
    simp only [renO] at he
    split at he
    · rename_i hn; cases he; exact ⟨v, rfl, hn, rfl⟩
    · cases he
theorem renO_var {ks : List Nat} {c0 : Nat} {ob : Ob} {cs : List PV} (he : renO ks c0 h ob = .var cs) : ∃ cs0, ob = .var cs0 ∧ cs = cs0.map (ren ks c0 h) ∧ cs.all one = true := by
  cases ob with
  | dead => cases he
  | arr s v f e => simp only [renO] at he; split at he <;> cases he
  | var c =>
    simp only [renO] at he
    split at he
    · rename_i hn; cases he; exact ⟨c, rfl, rfl, hn⟩
    · cases he
theorem settle_rep (hr : HRep B Z0 G h w) {ks : List Nat} {c0 : Nat} (hok : sOk ks c0 h = true) :
    (∀ {n : Nat} {u : Value} {c : PV}, VRep G h w n u c → VRep (G.out (sJ ks c0)) (sHeap ks c0 h) w n u (ren ks c0 h c)) ∧ HRep B Z0 (G.out (sJ ks c0)) (sHeap ks c0 h) w := by
  unfold sOk at hok
  simp only [Bool.and_eq_true, Nat.ble_eq] at hok
  obtain ⟨hnd, hlen⟩ := hok
  have hnd := nodupN_spec hnd
  have hJ : ∀ {p k}, sJ ks c0 p = some k → c0 ≤ p ∧ ks[p - c0]? = some k := fun {p k} hj => by
    unfold sJ at hj
    split at hj
    · cases hj
    · exact ⟨by omega, hj⟩
  have hJ' : ∀ {i k}, ks[i]? = some k → sJ ks c0 (c0 + i) = some k := fun {i k} hi => by
    unfold sJ; rw [if_neg (by omega), show c0 + i - c0 = i by omega]; exact hi
  have hrow : ∀ {p k}, sJ ks c0 p = some k → (sHeap ks c0 h)[p]? = some (1, renO ks c0 h (h.getD k (0, .dead)).2) := fun {p k} hj => by
    obtain ⟨h1, h2⟩ := hJ hj
    have := (List.getElem?_eq_some_iff.1 h2).1
    unfold sHeap
    rw [sGen_get, if_pos (by omega), Nat.zero_add]
    unfold sRow
    rw [if_neg (by omega), h2]
  have hrow' : ∀ {p r}, (sHeap ks c0 h)[p]? = some r → r.2 = .dead ∨ ∃ k ob g0, sJ ks c0 p = some k ∧ h[k]? = some (g0, ob) ∧ r = (1, renO ks c0 h ob) := fun {p r} hp => by
    unfold sHeap at hp
    rw [sGen_get] at hp
    split at hp
    · cases hp
      rw [Nat.zero_add]
      unfold sRow
      split
      · exact .inl rfl
      · rename_i hpc
        cases hk : ks[p - c0]? with
        | none => exact .inl rfl
        | some k =>
          cases hh : h[k]? with
          | none => left; simp [List.getD_eq_getElem?_getD, hh, renO]
          | some r0 =>
            obtain ⟨g0, ob⟩ := r0
            refine .inr ⟨k, ob, g0, ?_, hh, by simp [List.getD_eq_getElem?_getD, hh]⟩
            unfold sJ; rw [if_neg hpc]; exact hk
    · cases hp
  have hnew : ∀ {p k y}, sJ ks c0 p = some k → (G.out (sJ ks c0)).β (p, y) = G.β (k, y) ∧ ((G.out (sJ ks c0)).R (p, y) ↔ G.R (k, y)) ∧ (G.out (sJ ks c0)).γ (p, y) = G.γ (k, y) ∧ (G.out (sJ ks c0)).σ (p, y) = G.σ (k, y) := fun {p k y} hj => by
    refine ⟨?_, ?_, ?_, ?_⟩ <;> simp only [Gh.out, hj]
  have hRJ : ∀ {p y}, (G.out (sJ ks c0)).R (p, y) → ∃ k, sJ ks c0 p = some k := fun {p y} hR => by
    cases hj : sJ ks c0 p with
    | some k => exact ⟨k, rfl⟩
    | none => simp only [Gh.out, hj] at hR
  have hval : ∀ {n : Nat} {u : Value} {c : PV}, VRep G h w n u c → VRep (G.out (sJ ks c0)) (sHeap ks c0 h) w n u (ren ks c0 h c) := by
    intro n u c hc
    cases c <;> simp only [ren] <;> (try exact mk_undef)
    case bool => obtain rfl := rep_bool hc; exact mk_bool
    case int => obtain rfl := rep_int hc; exact mk_int
    case str => obtain rfl := rep_str hc; exact mk_str
    case nils => obtain rfl := rep_nils hc; exact mk_nils
    case lit => cases n <;> (unfold VRep at hc ⊢; exact hc)
    case slc es => exact mk_slc (rep_slc (G := G) (h := h) hc)
    case own k g gl s o l =>
      cases hi : ks.idxOf? k with
      | none => exact mk_undef
      | some i =>
        have hj := hJ' (idx_get hi)
        have hc' := VRep.cell (m := D) (by refine ⟨?_, ?_, ?_⟩ <;> intros <;> simp) hc
        refine VRep.cell (n := D) (by refine ⟨?_, ?_, ?_⟩ <;> intros <;> simp) ?_
        unfold D at hc' ⊢; unfold VRep at hc' ⊢
        obtain ⟨a, c, q0, q1, q2, q3, gn, ob, q4, q5, q6⟩ := hc'
        have hgd : h.getD k (0, .dead) = (gn, ob) := by simp [List.getD_eq_getElem?_getD, q4]
        refine ⟨a, c, q0, q1, q2, q3, _, _, hrow hj, ?_, fun e sz ver fr es he => ?_⟩
        · split <;> omega
        · have hg : gn = g := by
            rw [hgd] at e
            by_cases hg : gn = g
            · exact hg
            · simp [hg] at e
          rw [hgd] at he
          obtain ⟨ver0, h1, _, _⟩ := renO_arr he
          obtain ⟨q7, q8⟩ := q6 hg _ _ _ _ h1
          refine ⟨q7, fun e2 => ?_⟩
          obtain ⟨q9, q10, q11⟩ := q8 e2
          obtain ⟨a1, a2, a3, a4⟩ := hnew (y := none) hj
          rw [show (G.out (sJ ks c0)).β (root (c0 + i)) = G.β (root k) from a1, show (G.out (sJ ks c0)).γ (root (c0 + i)) = G.γ (root k) from a3]
          exact ⟨q9, fun hR => q10 (a2.1 hR), fun hR => q11 fun y => hR (a2.2 y)⟩
    case ptr k g o =>
      cases hi : ks.idxOf? k with
      | none => exact mk_undef
      | some i =>
        have hj := hJ' (idx_get hi)
        have hc' := VRep.cell (m := D) (by refine ⟨?_, ?_, ?_⟩ <;> intros <;> simp) hc
        refine VRep.cell (n := D) (by refine ⟨?_, ?_, ?_⟩ <;> intros <;> simp) ?_
        unfold D at hc' ⊢; unfold VRep at hc' ⊢
        obtain ⟨b, q0, gn, ob, q4, q5, q6⟩ := hc'
        have hgd : h.getD k (0, .dead) = (gn, ob) := by simp [List.getD_eq_getElem?_getD, q4]
        refine ⟨b, q0, _, _, hrow hj, ?_, fun e cs he => ?_⟩
        · split <;> omega
        · have hg : gn = g := by
            rw [hgd] at e
            by_cases hg : gn = g
            · exact hg
            · simp [hg] at e
          rw [hgd] at he
          obtain ⟨cs0, h1, _, _⟩ := renO_var he
          obtain ⟨a1, _⟩ := hnew (y := none) hj
          rw [show (G.out (sJ ks c0)).β (root (c0 + i)) = G.β (root k) from a1]
          exact q6 hg _ h1
  refine ⟨hval, hr.base, hr.zo, hr.zb, ?_, ?_, ?_, ?_, ?_⟩
  · rintro ⟨p, y⟩ hR
    obtain ⟨k, hk⟩ := hRJ hR
    obtain ⟨a1, a2, _⟩ := hnew (y := y) hk
    rw [a1]; exact hr.lv _ (a2.1 hR)
  · rintro p g o ho hlv y hR
    obtain ⟨k, hk⟩ := hRJ hR
    obtain ⟨a1, a2, _⟩ := hnew (y := y) hk
    rw [a1]
    rcases hrow' ho with h1 | ⟨k', ob, g0, h1, h2, h3⟩
    · simp only at h1; subst h1; cases hlv
    · rw [hk] at h1; cases h1
      cases h3
      refine hr.nz k g0 ob h2 ?_ y (a2.1 hR)
      cases ob with
      | dead => cases hlv
      | var cs => rfl
      | arr s v f e => simp only [renO] at hlv; split at hlv <;> first | exact hlv | cases hlv
  · rintro p g sz ver es ho y hR
    obtain ⟨k, hk⟩ := hRJ hR
    obtain ⟨a1, a2, _⟩ := hnew (y := y) hk
    rw [a1]
    rcases hrow' ho with h1 | ⟨k', ob, g0, h1, h2, h3⟩
    · cases h1
    · rw [hk] at h1; cases h1
      simp only [Prod.mk.injEq] at h3
      obtain ⟨ver0, h4, _, _⟩ := renO_arr h3.2.symm
      subst h4
      exact hr.fz k g0 _ _ _ h2 y (a2.1 hR)
  · rintro ⟨p1, y1⟩ ⟨p2, y2⟩ h1 h2 he
    obtain ⟨k1, hk1⟩ := hRJ h1
    obtain ⟨k2, hk2⟩ := hRJ h2
    obtain ⟨a1, a2, _⟩ := hnew (y := y1) hk1
    obtain ⟨b1, b2, _⟩ := hnew (y := y2) hk2
    have := hr.inj _ _ (a2.1 h1) (b2.1 h2) (by rw [← a1, ← b1]; exact he)
    simp only [Prod.mk.injEq] at this
    obtain ⟨rfl, rfl⟩ := this
    obtain ⟨c1, c2⟩ := hJ hk1
    obtain ⟨d1, d2⟩ := hJ hk2
    have := nodup_get hnd c2 d2
    rw [show p1 = p2 by omega]
  · rintro p g o ho
    rcases hrow' ho with h1 | ⟨k, ob, g0, hk, h2, h3⟩
    · simp only at h1; subst h1; trivial
    · simp only [Prod.mk.injEq] at h3
      obtain ⟨rfl, rfl⟩ := h3
      have hob := hr.ob k _ _ h2
      obtain ⟨a1, a2, a3, a4⟩ := hnew (y := none) hk
      cases hro : renO ks c0 h ob with
      | dead => trivial
      | var cs =>
        obtain ⟨cs0, rfl, rfl, hone⟩ := renO_var hro
        unfold ORep at hob ⊢
        obtain ⟨o1, us, T, o2, o3, o4⟩ := hob
        refine ⟨a2.2 o1, us, T, by rw [show (G.out (sJ ks c0)).β (root p) = G.β (root k) from a1]; exact o2, by simpa using o3, fun i c hc => ?_⟩
        rw [List.getElem?_map] at hc
        obtain ⟨c1, hc1, rfl⟩ := Option.map_eq_some_iff.1 hc
        obtain ⟨u, o5, o6⟩ := o4 i c1 hc1
        exact ⟨u, o5, List.all_eq_true.1 hone _ (List.mem_map.2 ⟨c1, List.mem_of_getElem? hc1, rfl⟩), hval o6.2⟩
      | arr sz ver fr es =>
        obtain ⟨ver0, rfl, hnr, rfl⟩ := renO_arr hro
        unfold ORep at hob ⊢
        rw [show (G.out (sJ ks c0)).β (root p) = G.β (root k) from a1, show (G.out (sJ ks c0)).γ (root p) = G.γ (root k) from a3]
        obtain ⟨o1, o2, o3, o4, o5⟩ := hob
        refine ⟨o1, o2, o3, fun hR => ?_, fun hR => o5 fun y => hR (a2.2 y)⟩
        obtain ⟨us, T, o6, o7, o8⟩ := o4 (a2.1 hR)
        refine ⟨us, T, o6, o7, fun i e he => ?_⟩
        obtain ⟨o9, o10⟩ := o8 i e he
        refine ⟨o9, fun j c hc => ?_⟩
        obtain ⟨u, o11, o12⟩ := o10 j c hc
        refine ⟨u, o11, ?_⟩
        have hnr' : (pureC c || isU c) = true := List.all_eq_true.1 (show (ecells e).all (fun c => pureC c || isU c) = true from List.all_eq_true.1 hnr e (List.mem_of_getElem? he)) c (List.mem_of_getElem? hc)
        cases c
        case uslc ns =>
          unfold CRep NRep at o12 ⊢
          obtain ⟨b1, b2, b3, b4⟩ := hnew (y := some (i, j)) hk
          rw [b1, b2, b3, b4]
          exact o12
        all_goals
          unfold CRep at o12 ⊢
          exact ⟨o12.1, prep_vrep o12.1 (vrep_pure (G := G) (h := h) (by simpa [isU] using hnr') o12.2)⟩
theorem renV_rep (hr : HRep B Z0 G h w) {ks : List Nat} {c0 : Nat} (hok : sOk ks c0 h = true) {u : Value} {c : PV} (hv : VRep G h w D u c) : VRep (G.out (sJ ks c0)) (sHeap ks c0 h) w D u (renV ks c0 h c) := by
  obtain ⟨hc, _⟩ := settle_rep hr hok
  by_cases ha : ∃ cs, c = .agg cs
  · obtain ⟨cs, rfl⟩ := ha
    obtain ⟨vs, rfl, h1, h2⟩ := rep_agg hv
    refine mk_agg ⟨by simpa using h1, fun i x hx => ?_⟩
    rw [List.getElem?_map] at hx
    obtain ⟨c1, hc1, rfl⟩ := Option.map_eq_some_iff.1 hx
    obtain ⟨u, h3, h4⟩ := h2 i c1 hc1
    exact ⟨u, h3, hc h4⟩
  · have : renV ks c0 h c = ren ks c0 h c := by
      cases c <;> first | rfl | exact absurd ⟨_, rfl⟩ ha
    rw [this]; exact hc hv
theorem settle_inv {W0 : Anch B} {vs : List Nat} {N : Nat} {vars : List PV} {a : Act} (hfree : ∀ {G : Gh} {h : Heap} {G' : Gh} {h' : Heap} {w : World}, W0.psi G h w → W0.psi G' h' w) (hi : SInv B Z0 W0 vs N vars h a w) {live ks : List Nat} {c0 : Nat} (hok : sOk ks c0 h = true) : SInv B Z0 W0 vs N (sVs live ks c0 h 0 vars) (sHeap ks c0 h) a w := by
  obtain ⟨G, i1, i2, i3, i4, i5⟩ := hi
  refine ⟨_, (settle_rep i1 hok).2, fun k s hs => ?_, i3, i4, hfree i5⟩
  obtain ⟨v, h1, h2⟩ := i2 k s hs
  refine ⟨v, h1, ?_⟩
  rcases sVs_get (live := live) (ks := ks) (c0 := c0) (h := h) (vs := vars) (i := 0) (k := k) with e | e
  · rw [e]; exact mk_undef
  · rw [e]; exact renV_rep i1 hok h2
end
section
variable {P : Program} {B : Nat} {Z0 : Nat → Prop} {W0 : Anch B} {vs : List Nat} {N : Nat}
theorem own_slc2 {G : Gh} {h : Heap} {w : World} (hr : HRep B Z0 G h w) {u : Value} {k g' s' ver : Nat} {es : List PV} (hh : h[k]? = some (g', .arr s' ver true es)) (hp : es.all noRefE = true) (hv : VRep G h w D u (.own k g' es.length s' 0 es.length)) : VRep G h w D u (.slc (es.map frzE)) := by
  have := own_slc hr (Z' := G.Z) (fun _ x => x) hh rfl (by omega) hp (hr.fz k g' s' ver es hh) hv
  rw [List.drop_zero, List.take_length] at this
  exact mk_slc this
theorem frzR_rep {G : Gh} {h : Heap} {w : World} (hr : HRep B Z0 G h w) {u : Value} {c : PV} (ho : one c = true) (hv : VRep G h w D u c) : one (frzR h c) = true ∧ VRep G h w D u (frzR h c) := by
  by_cases hc : ∃ k g gl s o l, c = .own k g gl s o l
  · obtain ⟨k, g, gl, s, o, l, rfl⟩ := hc
    simp only [frzR]
    split
    · rename_i g' s' ver fr es hlk
      split
      · rename_i hcd
        obtain ⟨rfl, rfl, rfl, rfl, rfl, rfl, hp⟩ := hcd
        have hh : h[k]? = some (g', .arr s' ver true es) := by
          rw [List.getD_eq_getElem?_getD] at hlk
          cases hx : h[k]? with
          | none => rw [hx] at hlk; cases hlk
          | some r => rw [hx] at hlk; simp at hlk; rw [hlk]
        exact ⟨rfl, own_slc2 hr hh hp hv⟩
      · exact ⟨ho, hv⟩
    · exact ⟨ho, hv⟩
  · have e : frzR h c = c := by
      cases c <;> first | rfl | exact absurd ⟨_, _, _, _, _, _, rfl⟩ hc
    rw [e]; exact ⟨ho, hv⟩
theorem frz_var {G : Gh} {h : Heap} {w : World} (hr : HRep B Z0 G h w) {k g : Nat} {cs : List PV} (hh : h[k]? = some (g, .var cs)) :
    HRep B Z0 G (h.set k (g, .var (cs.map (frzR h)))) w ∧ Ext G h w G (h.set k (g, .var (cs.map (frzR h)))) w := by
  have hk : k < h.length := (List.getElem?_eq_some_iff.1 hh).1
  have hob := hr.ob k g _ hh
  unfold ORep at hob
  obtain ⟨hR, us, T, hb, hu⟩ := hob
  have x : Ext G h w G (h.set k (g, .var (cs.map (frzR h)))) w := by
    refine ⟨fun _ y => y, fun _ _ => rfl, fun k' gn ob e => ?_⟩
    by_cases hkk : k' = k
    · subst hkk; rw [hh] at e; cases e
      refine ⟨g, .var _, List.getElem?_set_self hk, Nat.le_refl _, fun _ => ⟨fun _ _ _ _ e' => ?_, fun cs'' e' => ⟨cs, rfl, SameKey.refl _ _⟩⟩⟩
      cases e'
    · exact ⟨gn, ob, by rw [List.getElem?_set_ne (Ne.symm hkk)]; exact e, Nat.le_refl _, fun _ => Keep.refl k' ob (SameKey.refl _ _) fun i j => SameKey.refl _ _⟩
  refine ⟨hr.update k g _ hk x (fun _ _ _ => .inl (SameKey.refl _ _)) (fun _ _ _ _ => rfl) (Nat.le_refl _) (fun b hb' => hr.zb b hb') (fun b hb => .inl hb) (fun _ _ _ _ hn => hn) (fun y hR' => ?_) (fun _ _ _ e => by cases e) ?_, x⟩
  · obtain ⟨b1, b2⟩ := hr.lv _ hR'
    exact ⟨b1, b2, fun _ => hr.nz k g _ hh rfl y hR', fun y' hR2 e => congrArg Prod.snd (hr.inj _ _ hR' hR2 e), fun k' y' hkk hR2 e => hkk (congrArg Prod.fst (hr.inj _ _ hR' hR2 e)).symm⟩
  · unfold ORep
    refine ⟨hR, us, T, hb, by rw [List.length_map]; exact hu.1, fun i c hc => ?_⟩
    rw [List.getElem?_map] at hc
    obtain ⟨c0, hc0, rfl⟩ := Option.map_eq_some_iff.1 hc
    obtain ⟨v, h1, h2⟩ := hu.2 i c0 hc0
    obtain ⟨h3, h4⟩ := frzR_rep hr h2.1 h2.2
    exact ⟨v, h1, h3, h4.ext x⟩
theorem SInv.frz {vars : List PV} {a : Act} {w : World} : ∀ {l : List (Nat × Bool)} {h : Heap}, SInv B Z0 W0 vs N vars h a w → SInv B Z0 W0 vs N vars (frzH l h) a w
  | [], h, hi => hi
  | (k, r) :: l, h, hi => by
    refine SInv.frz (l := l) ?_
    obtain ⟨G, i1, i2, i3, i4, i5⟩ := hi
    cases hh : h[k]? with
    | none =>
      have : h.set k ((h.getD k (0, .dead)).1, frzO h r (h.getD k (0, .dead)).2) = h := List.set_eq_of_length_le (by simpa using hh)
      show SInv B Z0 W0 vs N vars (h.set k _) a w
      rw [this]; exact ⟨G, i1, i2, i3, i4, i5⟩
    | some o =>
      obtain ⟨g, ob⟩ := o
      have hd : h.getD k (0, .dead) = (g, ob) := by simp [List.getD, hh]
      show SInv B Z0 W0 vs N vars (h.set k ((h.getD k (0, .dead)).1, frzO h r (h.getD k (0, .dead)).2)) a w
      rw [hd]
      have same : frzO h r ob = ob → SInv B Z0 W0 vs N vars (h.set k (g, frzO h r ob)) a w := fun e => by
        rw [e]
        have : h.set k (g, ob) = h := by
          obtain ⟨hk, hg⟩ := List.getElem?_eq_some_iff.1 hh
          rw [← hg]; exact List.set_getElem_self hk
        rw [this]; exact ⟨G, i1, i2, i3, i4, i5⟩
      have fresh : ∀ G' o', HRep B Z0 G' (h.set k (g, o')) w ∧ Ext G h w G' (h.set k (g, o')) w → SInv B Z0 W0 vs N vars (h.set k (g, o')) a w := fun G' o' hx =>
        ⟨G', hx.1, fun k s hs => by obtain ⟨v, h1, h2⟩ := i2 k s hs; exact ⟨v, h1, h2.ext hx.2⟩, i3, i4, W0.step i5 hx.2 (Bl.refl _ _)⟩
      cases ob with
      | dead => exact same rfl
      | var cs => exact fresh _ _ (frz_var i1 hh)
      | arr sz ver fr es =>
        by_cases hp : es.all noRefE = true
        · cases r with
          | false => 
            have e : frzO h false (.arr sz ver fr es) = .arr sz (ver + 1) fr (es.map frzE) := by simp only [frzO, hp, if_true, Bool.or_false]
            rw [e]; exact fresh _ _ (frz_obj i1 hh hp)
          | true =>
            have e : frzO h true (.arr sz ver fr es) = .arr sz (ver + 1) true (es.map frzE) := by simp only [frzO, hp, if_true, Bool.or_true]
            rw [e]; exact fresh _ _ (frz_whole i1 hh hp)
        · exact same (by simp only [frzO, hp]; rfl)
theorem peel {FN : FNs} {vars : List PV} {a : Act} {w : World} {Q : XPost} : ∀ {x : XCode} {h : Heap}, xwp FN x Q vars h → SInv B Z0 W0 vs N vars h a w → ∃ x' h', (∀ l b, x' ≠ .frz l b) ∧ strip x' = strip x ∧ xwp FN x' Q vars h' ∧ SInv B Z0 W0 vs N vars h' a w := by
  intro x
  induction x with
  | frz l b ih => intro h hx hi; exact ih (show xwp FN b Q vars (frzH l h) from hx) hi.frz
  | skip | reg | seq | cond | block | loop | loopS | exit | ret => intro h hx hi; exact ⟨_, h, (fun l b e => by cases e), rfl, hx, hi⟩
end
theorem st_skip {x : XCode} (hf : ∀ l b, x ≠ .frz l b) (h : strip x = .skip) : x = .skip := by cases x <;> simp [strip] at h <;> first | exact absurd rfl (hf _ _) | rfl
theorem st_exit {x : XCode} {id : Nat} (hf : ∀ l b, x ≠ .frz l b) (h : strip x = .exit id) : x = .exit id := by cases x <;> simp [strip] at h <;> first | exact absurd rfl (hf _ _) | (subst h; rfl)
theorem st_ret {x : XCode} (hf : ∀ l b, x ≠ .frz l b) (h : strip x = .ret) : x = .ret := by cases x <;> simp [strip] at h <;> first | exact absurd rfl (hf _ _) | rfl
theorem st_reg {x : XCode} {xs : List XOper} (hf : ∀ l b, x ≠ .frz l b) (h : strip x = .reg xs) : x = .reg xs := by cases x <;> simp [strip] at h <;> first | exact absurd rfl (hf _ _) | (subst h; rfl)
theorem st_seq {x a b : XCode} (hf : ∀ l b, x ≠ .frz l b) (h : strip x = .seq a b) : ∃ a' b', x = .seq a' b' ∧ strip a' = a ∧ strip b' = b := by
  cases x <;> first | exact absurd rfl (hf _ _) | simp [strip] at h
  exact ⟨_, _, rfl, h.1, h.2⟩
theorem st_cond {x a b : XCode} {c : Opd} (hf : ∀ l b, x ≠ .frz l b) (h : strip x = .cond c a b) : ∃ a' b', x = .cond c a' b' ∧ strip a' = a ∧ strip b' = b := by
  cases x <;> first | exact absurd rfl (hf _ _) | simp [strip] at h
  obtain ⟨rfl, h1, h2⟩ := h
  exact ⟨_, _, rfl, h1, h2⟩
theorem st_block {x b : XCode} {id : Nat} (hf : ∀ l b, x ≠ .frz l b) (h : strip x = .block id b) : ∃ b', x = .block id b' ∧ strip b' = b := by
  cases x <;> first | exact absurd rfl (hf _ _) | simp [strip] at h
  obtain ⟨rfl, h1⟩ := h
  exact ⟨_, rfl, h1⟩
theorem st_loop {x b : XCode} (hf : ∀ l b, x ≠ .frz l b) (h : strip x = .loop b) : (∃ b', x = .loop b' ∧ strip b' = b) ∨ ∃ lv c0 b', x = .loopS lv c0 b' ∧ strip b' = b := by
  cases x <;> first | exact absurd rfl (hf _ _) | simp [strip] at h
  · exact .inl ⟨_, rfl, h⟩
  · exact .inr ⟨_, _, _, rfl, h⟩
section
variable {P : Program} {B : Nat} {Z0 : Nat → Prop} {W0 : Anch B} {vs : List Nat} {N : Nat} {vars : List PV} {h : Heap} {a : Act} {w : World}
/-- CODE, with states settled here and there -/
theorem code_soundS {ρ : Option Nat} {nn : Nat} (hm : P.follows .mixedOrders = true) (hfree : ∀ {G : Gh} {h : Heap} {G' : Gh} {h' : Heap} {w : World}, W0.psi G h w → W0.psi G' h' w) (hn : vs.Nodup) : ∀ (c : Code) (k k' : Nat) (x : XCode), compCode P vs N k c = some (strip x, k') → ∀ (Q' : XPost) (Q : Exit → Act → World → Prop) (vars : List PV) (h : Heap) (a : Act) (w : World),
    xwp (fns P) x Q' vars h → SInv B Z0 W0 vs N vars h a w → PostR B Z0 W0 vs N Q' Q → c.wpIn (fz ρ) nn P Q a w := by
  intro c
  induction c with
  | skip =>
    intro k k' x hc Q' Q vars h a w hx hi hq
    have hp := peel hx hi
    clear hx hi
    obtain ⟨x, h, hnf, hst, hx, hi⟩ := hp
    rw [← hst] at hc
    simp only [compCode, Option.some.injEq, Prod.mk.injEq] at hc
    obtain ⟨hc, rfl⟩ := hc
    obtain rfl := st_skip hnf hc.symm
    exact wpIn_skip (hq .normal _ _ _ _ hi hx)
  | label l =>
    intro k k' x hc Q' Q vars h a w hx hi hq
    have hp := peel hx hi
    clear hx hi
    obtain ⟨x, h, hnf, hst, hx, hi⟩ := hp
    rw [← hst] at hc
    simp only [compCode, Option.some.injEq, Prod.mk.injEq] at hc
    obtain ⟨hc, rfl⟩ := hc
    obtain rfl := st_skip hnf hc.symm
    exact wpIn_label (hq .normal _ _ _ _ hi hx)
  | exit id =>
    intro k k' x hc Q' Q vars h a w hx hi hq
    have hp := peel hx hi
    clear hx hi
    obtain ⟨x, h, hnf, hst, hx, hi⟩ := hp
    rw [← hst] at hc
    simp only [compCode, Option.some.injEq, Prod.mk.injEq] at hc
    obtain ⟨hc, rfl⟩ := hc
    obtain rfl := st_exit hnf hc.symm
    exact wpIn_exit (hq (.exit id) _ _ _ _ hi hx)
  | ret =>
    intro k k' x hc Q' Q vars h a w hx hi hq
    have hp := peel hx hi
    clear hx hi
    obtain ⟨x, h, hnf, hst, hx, hi⟩ := hp
    rw [← hst] at hc
    simp only [compCode, Option.some.injEq, Prod.mk.injEq] at hc
    obtain ⟨hc, rfl⟩ := hc
    obtain rfl := st_ret hnf hc.symm
    exact wpIn_ret (hq .ret _ _ _ _ hi hx)
  | region id ops d =>
    intro k k' x hc Q' Q vars h a w hx hi hq
    have hp := peel hx hi
    clear hx hi
    obtain ⟨x, h, hnf, hst, hx, hi⟩ := hp
    rw [← hst] at hc
    simp only [compCode] at hc
    split at hc
    · rename_i xs k1 hc0
      simp only [Option.some.injEq, Prod.mk.injEq] at hc
      obtain ⟨hc, rfl⟩ := hc
      obtain rfl := st_reg hnf hc.symm
      obtain ⟨hsi, hx⟩ := hx
      rw [show ops = ops.toList.toArray by simp]
      cases d with
      | false => exact plain_sound hn hc0 hsi hx (fun st a w hi hq' => hq .normal _ _ _ _ hi hq') hi
      | true => exact drawn_sound hm hn hc0 hsi hx (fun st a w hi hq' => hq .normal _ _ _ _ hi hq') hi
    · cases hc
  | seq c1 c2 ih1 ih2 =>
    intro k k' x hc Q' Q vars h a w hx hi hq
    have hp := peel hx hi
    clear hx hi
    obtain ⟨x, h, hnf, hst, hx, hi⟩ := hp
    rw [← hst] at hc
    simp only [compCode] at hc
    split at hc
    · rename_i x1 k1 h1
      split at hc
      · rename_i x2 k2 h2
        simp only [Option.some.injEq, Prod.mk.injEq] at hc
        obtain ⟨hc, rfl⟩ := hc
        obtain ⟨x1, x2, rfl, rfl, rfl⟩ := st_seq hnf hc.symm
        refine wpIn_seq (ih1 _ _ _ h1 _ _ _ _ _ _ hx hi fun e vars h a w hi he => ?_)
        cases e with
        | normal => exact ih2 _ _ _ h2 _ _ _ _ _ _ he hi hq
        | exit id => exact hq (.exit id) _ _ _ _ hi he
        | ret => exact hq .ret _ _ _ _ hi he
      · cases hc
    · cases hc
  | cond cd c1 c2 ih1 ih2 =>
    intro k k' x hc Q' Q vars h a w hx hi hq
    have hp := peel hx hi
    clear hx hi
    obtain ⟨x, h, hnf, hst, hx, hi⟩ := hp
    rw [← hst] at hc
    simp only [compCode] at hc
    split at hc
    · rename_i x1 k1 h1
      split at hc
      · rename_i x2 k2 h2
        split at hc
        · rename_i dd hdd
          simp only [Option.some.injEq, Prod.mk.injEq] at hc
          obtain ⟨hc, rfl⟩ := hc
          obtain ⟨x1, x2, rfl, rfl, rfl⟩ := st_cond hnf hc.symm
          obtain ⟨G, i1, i2, i3⟩ := id hi
          have hr := cond_rep hdd i2
          simp only [xwp] at hx
          split at hx
          · rename_i he
            rw [he] at hr
            exact wpIn_cond_true (rep_bool hr) (ih1 _ _ _ h1 _ _ _ _ _ _ hx hi hq)
          · rename_i he
            rw [he] at hr
            exact wpIn_cond_false (rep_bool hr) (ih2 _ _ _ h2 _ _ _ _ _ _ hx hi hq)
          · exact hx.elim
        · cases hc
      · cases hc
    · cases hc
  | block id c ih =>
    intro k k' x hc Q' Q vars h a w hx hi hq
    have hp := peel hx hi
    clear hx hi
    obtain ⟨x, h, hnf, hst, hx, hi⟩ := hp
    rw [← hst] at hc
    simp only [compCode] at hc
    split at hc
    · rename_i x1 k1 h1
      simp only [Option.some.injEq, Prod.mk.injEq] at hc
      obtain ⟨hc, rfl⟩ := hc
      obtain ⟨x1, rfl, rfl⟩ := st_block hnf hc.symm
      refine wpIn_block (ih _ _ _ h1 _ _ _ _ _ _ hx hi fun e vars h a w hi he => ?_)
      cases e with
      | normal => exact hq .normal _ _ _ _ hi he
      | exit i =>
        simp only [xin] at he
        show Exit.inBlock id Q (.exit i) a w
        simp only [Exit.inBlock]
        split at he
        · rename_i e; rw [if_pos e]; exact hq .normal _ _ _ _ hi he
        · rename_i e; rw [if_neg e]; exact hq (.exit i) _ _ _ _ hi he
      | ret => exact hq .ret _ _ _ _ hi he
    · cases hc
  | loop c ih =>
    intro k k' x hc Q' Q vars h a w hx hi hq
    have hp := peel hx hi
    clear hx hi
    obtain ⟨x, h, hnf, hst, hx, hi⟩ := hp
    rw [← hst] at hc
    simp only [compCode] at hc
    split at hc
    · rename_i x1 k1 h1
      simp only [Option.some.injEq, Prod.mk.injEq] at hc
      obtain ⟨hc, rfl⟩ := hc
      rcases st_loop hnf hc.symm with ⟨x1, rfl, rfl⟩ | ⟨lv, c0, x1, rfl, rfl⟩
      · obtain ⟨n, hx⟩ := hx
        refine wpIn_loop_rounds n ?_
        induction n generalizing vars h a w with
        | zero => exact hx.elim
        | succ n ihn =>
          refine ih _ _ _ h1 _ _ _ _ _ _ hx hi fun e vars h a w hi he => ?_
          cases e with
          | normal => exact ihn _ _ _ _ hi he
          | exit id => exact hq (.exit id) _ _ _ _ hi he
          | ret => exact hq .ret _ _ _ _ hi he
      · obtain ⟨n, hx⟩ := hx
        refine wpIn_loop_rounds n ?_
        induction n generalizing vars h a w with
        | zero => exact hx.elim
        | succ n ihn =>
          obtain ⟨hok, hx⟩ := hx
          refine ih _ _ _ h1 _ _ _ _ _ _ hx (settle_inv hfree hi hok) fun e vars h a w hi he => ?_
          cases e with
          | normal => exact ihn _ _ _ _ hi he
          | exit id => exact hq (.exit id) _ _ _ _ hi he
          | ret => exact hq .ret _ _ _ _ hi he
    · cases hc
  | scope c ih =>
    intro k k' x hc Q' Q vars h a w hx hi hq
    have hp := peel hx hi
    clear hx hi
    obtain ⟨x, h, hnf, hst, hx, hi⟩ := hp
    rw [← hst] at hc
    simp only [compCode] at hc
    refine wpIn_scope_straight (ih _ _ _ hc _ _ _ _ _ _ hx hi fun e vars h a w hi he => ?_)
    cases e with
    | normal => exact hq .normal _ _ _ _ hi he
    | exit id => exact hq (.exit id) _ _ _ _ hi he
    | ret => exact hq .ret _ _ _ _ hi he
  | _ =>
    intro k k' x hc
    simp only [compCode] at hc
    cases hc
/-- A FUNCTION, by its body; n: how many objects there may be -/
theorem fn_introS (hm : P.follows .mixedOrders = true) {f : FuncId} {X : XFn} {s0 : Nat} (hc : compFn P f = some { X with sites := s0, body := strip X.body }) {n : Nat} {szs : List Nat} {args : List PV} {r : PV} (hlen : args.length ≤ X.ntmps)
    (hx : xwp (fns P) X.body (xret X.results szs r) (X.vars.map fun s => args.getD s .undef) (List.replicate n (0, .dead))) : Fn P f szs args r := by
  unfold compFn at hc
  dsimp only at hc
  split at hc
  · cases hc
  · rename_i fn hfn
    split at hc
    · cases hc
    · rename_i c hbody
      split at hc
      · rename_i x k rs hcode hres
        split at hc
        · rename_i hcond
          obtain ⟨hnm, hnd, hall, hpar⟩ := hcond
          obtain ⟨nt, vs0, si0, re0, bo0⟩ := X
          simp only [Option.some.injEq, XFn.mk.injEq] at hc
          obtain ⟨rfl, rfl, rfl, rfl, hb0⟩ := hc
          rw [hb0] at hcode
          refine ⟨by unfold callable; rw [hfn]; simpa [hbody] using hnm, fun w Z vargs hz hargs => ?_⟩
          refine (callsIn_fz (ρ := none) (n := 0)).1 (callsIn_of_wp_marks hfn hbody trivial ?_)
          refine code_soundS hm (fun h => h) (nodupN_spec hnd) c 0 k bo0 hcode _ _ _ _ _ _ hx (enter_fn hall hz hargs hlen) fun e vars h a w' hi' he => ?_
          obtain ⟨he1, l, he2, he3, he4, rfl⟩ := he
          cases e with
          | normal => exact leave_fn hres hi' he2 he3 he4
          | ret => exact leave_fn hres hi' he2 he3 he4
          | exit id => exact he1.elim
        · cases hc
      · cases hc
end
end Go.Proofs.Yteafgpjhgefiiaa.Am
