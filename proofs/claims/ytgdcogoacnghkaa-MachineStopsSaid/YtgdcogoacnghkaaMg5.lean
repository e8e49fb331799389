/-
  The plain machine and that it is sound, part 5.
-/
import Derived.Test.YtgdcogoacnghkaaMg4
/-
  A result may be read as frozen memory at once.
-/
namespace Go.Proofs.Ytgdcogoacnghkaa.Am
set_option linter.unusedSimpArgs false
set_option linter.unusedVariables false
set_option linter.unusedSectionVars false
open Go.RowKit
section
variable {P : Program}
/-- WHAT A CALL GIVES, frozen at once -/
theorem Fn_frz {f : FuncId} {szs : List Nat} {args es : List PV} (hn : es.all noRefE = true) (h : Fn P f szs args (.uslc es)) : Fn P f szs args (.slc (es.map frzE)) := by
  refine ⟨h.1, fun w Z vargs hz ha => (h.2 w Z vargs hz ha).mono fun e w' hh => ?_⟩
  obtain ⟨v, G, e1, e2, e3, e4⟩ := hh
  have hr0 : (resH szs (.uslc es))[0]? = some (1, .arr (szs.getD 0 0) 0 false es) := resH_arr (p := 0) rfl
  refine ⟨v, G0 (fun b => G.Z b ∨ ∃ key, G.R key ∧ G.β key = b), e1, e2, ?_, ?_⟩
  · refine ⟨e3.base, fun b hb => ?_, fun b hb => ?_, fun key hR => hR.elim, fun k g o _ _ y hR => hR.elim, fun k g o _ _ y hR => hR.elim, fun key key' hR => hR.elim, fun k g o ho => ?_⟩
    · rcases hb with hb | ⟨key, h1, rfl⟩
      · exact e3.zo b hb
      · exact .inr (e3.lv key h1).1
    · rcases hb with hb | ⟨key, h1, rfl⟩
      · exact e3.zb b hb
      · exact (e3.lv key h1).2
    · rcases resH_ob ho with rfl | ⟨es', h1, _, _⟩
      · trivial
      · match k, h1 with
        | 0, h1 => simp [rcells, comps, ecells] at h1
        | k + 1, h1 => simp [rcells, comps, ecells] at h1
  · have hs := own_slc (k := 0) (g := 1) (gl := es.length) (s := szs.getD 0 0) (o := 0) (l := es.length) e3 (Z' := fun b => G.Z b ∨ ∃ key, G.R key ∧ G.β key = b) (fun b hb => .inl hb) hr0 rfl (by omega) hn (fun y hR => .inr ⟨_, hR, rfl⟩) e4
    rw [List.drop_zero, List.take_length] at hs
    exact mk_slc hs
/-- .. in a struct, or among several results -/
theorem Fn_aggF {f : FuncId} {szs : List Nat} {args es : List PV} {k1 k2 : IntKind} {a b : Int} (hn : es.all noRefE = true) (h : Fn P f szs args (.agg [.uslc es, .int k1 a, .int k2 b])) : Fn P f szs args (.agg [.slc (es.map frzE), .int k1 a, .int k2 b]) := by
  refine ⟨h.1, fun w Z vargs hz ha => (h.2 w Z vargs hz ha).mono fun e w' hh => ?_⟩
  obtain ⟨v, G, e1, e2, e3, e4⟩ := hh
  have hr0 : (resH szs (.agg [.uslc es, .int k1 a, .int k2 b]))[0]? = some (1, .arr (szs.getD 0 0) 0 false es) := resH_arr (p := 0) rfl
  refine ⟨v, G0 (fun b => G.Z b ∨ ∃ key, G.R key ∧ G.β key = b), e1, e2, ?_, ?_⟩
  · refine ⟨e3.base, fun b hb => ?_, fun b hb => ?_, fun key hR => hR.elim, fun k g o _ _ y hR => hR.elim, fun k g o _ _ y hR => hR.elim, fun key key' hR => hR.elim, fun k g o ho => ?_⟩
    · rcases hb with hb | ⟨key, h1, rfl⟩
      · exact e3.zo b hb
      · exact .inr (e3.lv key h1).1
    · rcases hb with hb | ⟨key, h1, rfl⟩
      · exact e3.zb b hb
      · exact (e3.lv key h1).2
    · rcases resH_ob ho with rfl | ⟨es', h1, _, _⟩
      · trivial
      · match k, h1 with
        | 0, h1 => simp [rcells, comps, ecells] at h1
        | 1, h1 => simp [rcells, comps, ecells] at h1
        | 2, h1 => simp [rcells, comps, ecells] at h1
        | k + 3, h1 => simp [rcells, comps, ecells] at h1
  · have e4' : VRep G (resH szs (.agg [.uslc es, .int k1 a, .int k2 b])) w' D v (.agg [.own 0 1 es.length (szs.getD 0 0) 0 es.length, .int k1 a, .int k2 b]) := e4
    unfold D at e4'; unfold VRep at e4'
    obtain ⟨vs, rfl, hl⟩ := e4'
    obtain ⟨u, hu1, hu2⟩ := hl.2 0 _ rfl
    have hs := own_slc (k := 0) (g := 1) (gl := es.length) (s := szs.getD 0 0) (o := 0) (l := es.length) e3 (Z' := fun b => G.Z b ∨ ∃ key, G.R key ∧ G.β key = b) (fun b hb => .inl hb) hr0 rfl (by omega) hn (fun y hR => .inr ⟨_, hR, rfl⟩) (rep_up hu2)
    rw [List.drop_zero, List.take_length] at hs
    show VRep _ _ w' D _ (.agg [.slc (es.map frzE), .int k1 a, .int k2 b])
    unfold D; unfold VRep
    refine ⟨vs, rfl, hl.1, fun i c hc => ?_⟩
    match i, hc with
    | 0, hc => cases hc; exact ⟨u, hu1, mk_slc hs⟩
    | 1, hc =>
      cases hc
      obtain ⟨u1, h1, h2⟩ := hl.2 1 _ rfl
      exact ⟨u1, h1, by unfold VRep at h2 ⊢; exact h2⟩
    | 2, hc =>
      cases hc
      obtain ⟨u1, h1, h2⟩ := hl.2 2 _ rfl
      exact ⟨u1, h1, by unfold VRep at h2 ⊢; exact h2⟩
theorem Fn_tupF {f : FuncId} {szs : List Nat} {args es : List PV} {k1 k2 : IntKind} {a b : Int} (hn : es.all noRefE = true) (h : Fn P f szs args (.tup [.uslc es, .int k1 a, .int k2 b])) : Fn P f szs args (.tup [.slc (es.map frzE), .int k1 a, .int k2 b]) := by
  refine ⟨h.1, fun w Z vargs hz ha => (h.2 w Z vargs hz ha).mono fun e w' hh => ?_⟩
  obtain ⟨v, G, e1, e2, e3, e4⟩ := hh
  have hr0 : (resH szs (.tup [.uslc es, .int k1 a, .int k2 b]))[0]? = some (1, .arr (szs.getD 0 0) 0 false es) := resH_arr (p := 0) rfl
  refine ⟨v, G0 (fun b => G.Z b ∨ ∃ key, G.R key ∧ G.β key = b), e1, e2, ?_, ?_⟩
  · refine ⟨e3.base, fun b hb => ?_, fun b hb => ?_, fun key hR => hR.elim, fun k g o _ _ y hR => hR.elim, fun k g o _ _ y hR => hR.elim, fun key key' hR => hR.elim, fun k g o ho => ?_⟩
    · rcases hb with hb | ⟨key, h1, rfl⟩
      · exact e3.zo b hb
      · exact .inr (e3.lv key h1).1
    · rcases hb with hb | ⟨key, h1, rfl⟩
      · exact e3.zb b hb
      · exact (e3.lv key h1).2
    · rcases resH_ob ho with rfl | ⟨es', h1, _, _⟩
      · trivial
      · match k, h1 with
        | 0, h1 => simp [rcells, comps, ecells] at h1
        | 1, h1 => simp [rcells, comps, ecells] at h1
        | 2, h1 => simp [rcells, comps, ecells] at h1
        | k + 3, h1 => simp [rcells, comps, ecells] at h1
  · have e4' : VRep G (resH szs (.tup [.uslc es, .int k1 a, .int k2 b])) w' D v (.tup [.own 0 1 es.length (szs.getD 0 0) 0 es.length, .int k1 a, .int k2 b]) := e4
    unfold D at e4'; unfold VRep at e4'
    obtain ⟨vs, rfl, hl⟩ := e4'
    obtain ⟨u, hu1, hu2⟩ := hl.2 0 _ rfl
    have hs := own_slc (k := 0) (g := 1) (gl := es.length) (s := szs.getD 0 0) (o := 0) (l := es.length) e3 (Z' := fun b => G.Z b ∨ ∃ key, G.R key ∧ G.β key = b) (fun b hb => .inl hb) hr0 rfl (by omega) hn (fun y hR => .inr ⟨_, hR, rfl⟩) (rep_up hu2)
    rw [List.drop_zero, List.take_length] at hs
    show VRep _ _ w' D _ (.tup [.slc (es.map frzE), .int k1 a, .int k2 b])
    unfold D; unfold VRep
    refine ⟨vs, rfl, hl.1, fun i c hc => ?_⟩
    match i, hc with
    | 0, hc => cases hc; exact ⟨u, hu1, mk_slc hs⟩
    | 1, hc =>
      cases hc
      obtain ⟨u1, h1, h2⟩ := hl.2 1 _ rfl
      exact ⟨u1, h1, by unfold VRep at h2 ⊢; exact h2⟩
    | 2, hc =>
      cases hc
      obtain ⟨u1, h1, h2⟩ := hl.2 2 _ rfl
      exact ⟨u1, h1, by unfold VRep at h2 ⊢; exact h2⟩
theorem Fn_aggN {f : FuncId} {szs : List Nat} {args : List PV} {k1 k2 : IntKind} {a b : Int} (h : Fn P f szs args (.agg [.nils, .int k1 a, .int k2 b])) : Fn P f szs args (.agg [.slc [], .int k1 a, .int k2 b]) := by
  refine ⟨h.1, fun w Z vargs hz ha => (h.2 w Z vargs hz ha).mono fun e w' hh => ?_⟩
  obtain ⟨v, G, e1, e2, e3, e4⟩ := hh
  refine ⟨v, G, e1, e2, e3, ?_⟩
  have e4' : VRep G (resH szs (.agg [.nils, .int k1 a, .int k2 b])) w' D v (.agg [.nils, .int k1 a, .int k2 b]) := e4
  unfold D at e4'; unfold VRep at e4'
  obtain ⟨vs, rfl, hl⟩ := e4'
  obtain ⟨u, hu1, hu2⟩ := hl.2 0 _ rfl
  show VRep _ _ w' D _ (.agg [.slc [], .int k1 a, .int k2 b])
  unfold D; unfold VRep
  refine ⟨vs, rfl, hl.1, fun i c hc => ?_⟩
  match i, hc with
  | 0, hc =>
    cases hc
    obtain rfl := rep_nils hu2
    refine ⟨_, hu1, mk_slc (PR.slc_iff.2 ⟨none, 0, 0, rfl, Nat.le_refl _, Nat.zero_le _, fun _ => rfl, fun i e he => by simp at he⟩)⟩
  | 1, hc =>
    cases hc
    obtain ⟨u1, h1, h2⟩ := hl.2 1 _ rfl
    exact ⟨u1, h1, h2⟩
  | 2, hc =>
    cases hc
    obtain ⟨u1, h1, h2⟩ := hl.2 2 _ rfl
    exact ⟨u1, h1, h2⟩
theorem Fn_tupN {f : FuncId} {szs : List Nat} {args : List PV} {k1 k2 : IntKind} {a b : Int} (h : Fn P f szs args (.tup [.nils, .int k1 a, .int k2 b])) : Fn P f szs args (.tup [.slc [], .int k1 a, .int k2 b]) := by
  refine ⟨h.1, fun w Z vargs hz ha => (h.2 w Z vargs hz ha).mono fun e w' hh => ?_⟩
  obtain ⟨v, G, e1, e2, e3, e4⟩ := hh
  refine ⟨v, G, e1, e2, e3, ?_⟩
  have e4' : VRep G (resH szs (.tup [.nils, .int k1 a, .int k2 b])) w' D v (.tup [.nils, .int k1 a, .int k2 b]) := e4
  unfold D at e4'; unfold VRep at e4'
  obtain ⟨vs, rfl, hl⟩ := e4'
  obtain ⟨u, hu1, hu2⟩ := hl.2 0 _ rfl
  show VRep _ _ w' D _ (.tup [.slc [], .int k1 a, .int k2 b])
  unfold D; unfold VRep
  refine ⟨vs, rfl, hl.1, fun i c hc => ?_⟩
  match i, hc with
  | 0, hc =>
    cases hc
    obtain rfl := rep_nils hu2
    refine ⟨_, hu1, mk_slc (PR.slc_iff.2 ⟨none, 0, 0, rfl, Nat.le_refl _, Nat.zero_le _, fun _ => rfl, fun i e he => by simp at he⟩)⟩
  | 1, hc =>
    cases hc
    obtain ⟨u1, h1, h2⟩ := hl.2 1 _ rfl
    exact ⟨u1, h1, h2⟩
  | 2, hc =>
    cases hc
    obtain ⟨u1, h1, h2⟩ := hl.2 2 _ rfl
    exact ⟨u1, h1, h2⟩
/-- an empty slice that is passed is nil, or not -/
theorem Fn_emp {f : FuncId} {szs : List Nat} {pre post : List PV} {r : PV} (h1 : Fn P f szs (pre ++ .nils :: post) r) (h2 : Fn P f szs (pre ++ .lst [] :: post) r) : Fn P f szs (pre ++ .slc [] :: post) r := by
  refine ⟨h1.1, fun w Z vargs hz ha => ?_⟩
  have hlen : pre.length < vargs.size := by rw [ha.1]; simp
  have hother : ∀ (p : PV) (i : Nat) c, i ≠ pre.length → (pre ++ p :: post)[i]? = some c → (pre ++ PV.slc [] :: post)[i]? = some c := fun p i c hi hc => by
    by_cases hlt : i < pre.length
    · rw [List.getElem?_append_left hlt] at hc ⊢; exact hc
    · rw [List.getElem?_append_right (by omega)] at hc ⊢
      obtain ⟨j, hj⟩ : ∃ j, i - pre.length = j + 1 := ⟨i - pre.length - 1, by omega⟩
      rw [hj, List.getElem?_cons_succ] at hc ⊢; exact hc
  have here : ∀ p : PV, (pre ++ p :: post)[pre.length]? = some p := fun p => by rw [List.getElem?_append_right (Nat.le_refl _)]; simp
  obtain ⟨u, q1, q2⟩ := ha.2 pre.length (.slc []) (here _)
  obtain ⟨a, c, sz, rfl, g2, g3, g4, _⟩ := PR.slc_iff.1 (rep_slc q2)
  have swap : ∀ p : PV, VRep (G0 Z) [] w D (.slice a 0 c) p → LRep (VRep (G0 Z) [] w D) vargs (pre ++ p :: post) := fun p hp => by
    refine ⟨by rw [ha.1]; simp, fun i x hx => ?_⟩
    by_cases hi : i = pre.length
    · subst hi
      rw [here] at hx; cases hx
      exact ⟨_, q1, hp⟩
    · exact ha.2 i x (hother p i x hi hx)
  cases a with
  | none =>
    have hc := g4 rfl
    subst hc
    exact h1.2 w Z vargs hz (swap .nils (by unfold D; unfold VRep; rfl))
  | some ad => exact h2.2 w Z vargs hz (swap (.lst []) (by unfold D; unfold VRep; exact ⟨ad, c, rfl, Nat.zero_le _, g3, fun i e he => by simp at he⟩))
end
end Go.Proofs.Ytgdcogoacnghkaa.Am
/-
  A function that is looped over, by its body.
-/
namespace Go.Proofs.Ytgdcogoacnghkaa.Am
set_option linter.unusedSimpArgs false
set_option linter.unusedVariables false
set_option linter.unusedSectionVars false
open Go.RowKit
/-- the ghost: how a round was left -/
def gOf : Option XExit → PV
  | none => .undef
  | some .ret => .int .i64 0
  | some (.exit id) => .int .i64 ((id : Int) + 1)
  | some .normal => .int .i64 (-1)
theorem gOf_inj {p q : Option XExit} (h : gOf p = gOf q) : p = q := by
  rcases p with _ | p
  · rcases q with _ | q
    · rfl
    · cases q <;> cases h
  · rcases q with _ | q
    · cases p <;> cases h
    · cases p <;> cases q <;> simp only [gOf, PV.int.injEq, true_and] at h <;> first | rfl | omega | skip
      rename_i a b
      have : a = b := by omega
      rw [this]
def YMono (Y : YT) : Prop := ∀ (args : List PV) (h : Heap) (k k' : Option XExit → Heap → Prop), (∀ p h, k p h → k' p h) → Y args h k → Y args h k'
/-- what calls give within a function that is looped over: l: the loop; n: how many variables -/
def fnY (P : Program) (l n : Nat) (Y : YT) (hm : YMono Y) : FNs :=
  ⟨Fn P, FI P, fun v args vars h K => fyI P v args vars h K ∨ (v = .fn (.yield l) [] [] ∧ vars.getD n .undef = gOf none ∧ vars.length = n + 1 ∧ Y args h fun p h' => K (.bool p.isNone) (vars.set n (gOf p)) h'), IT P,
    fun hk h => h.imp (fun ⟨r, ws, h1, h2⟩ => ⟨r, ws, h1, hk _ _ _ h2⟩) fun ⟨h1, h2, h3, h4⟩ => ⟨h1, h2, h3, hm _ _ _ _ (fun _ _ => hk _ _ _) h4⟩, fun hk h => h.mono hk⟩
section
variable {P : Program} {B : Nat} {Z0 : Nat → Prop} {G G' : Gh} {h h' : Heap} {w w' : World}
theorem yieldAt_mono {F : Fence} {n l : Nat} {va : Array Value} {R R' : Ending → World → Prop} (hr : ∀ e w, R e w → R' e w) (hy : YieldAt F n P l va w R) : YieldAt F n P l va w R' := by
  obtain ⟨fn, t, a, b, h1, h2⟩ := hy
  exact ⟨fn, t, a, b, h1, h2.mono hr⟩
theorem noR_of {vs : List Nat} {N : Nat} : ∀ {c : Code} {k k' : Nat} {x : XCode}, compCode P vs N k c = some (x, k') → noX x = true → noR c = true := by
  intro c
  induction c with
  | seq a b iha ihb =>
    intro k k' x hc hn
    simp only [compCode] at hc
    split at hc
    · rename_i h1
      split at hc
      · rename_i h2
        cases hc
        simp only [noX, Bool.and_eq_true] at hn
        simp only [noR, Bool.and_eq_true]
        exact ⟨iha h1 hn.1, ihb h2 hn.2⟩
      · cases hc
    · cases hc
  | cond cd a b iha ihb =>
    intro k k' x hc hn
    simp only [compCode] at hc
    split at hc
    · rename_i h1
      split at hc
      · rename_i h2
        split at hc
        · cases hc
          simp only [noX, Bool.and_eq_true] at hn
          simp only [noR, Bool.and_eq_true]
          exact ⟨iha h1 hn.1, ihb h2 hn.2⟩
        · cases hc
      · cases hc
    · cases hc
  | block id b ih =>
    intro k k' x hc hn
    simp only [compCode] at hc
    split at hc
    · rename_i h1; cases hc; exact ih h1 hn
    · cases hc
  | loop b ih =>
    intro k k' x hc hn
    simp only [compCode] at hc
    split at hc
    · rename_i h1; cases hc; exact ih h1 hn
    · cases hc
  | scope b ih => intro k k' x hc hn; exact ih (show compCode P vs N k b = _ from hc) hn
  | rangeFunc g ps a b iha ihb =>
    intro k k' x hc hn
    simp only [compCode] at hc
    split at hc
    · split at hc
      · split at hc
        · split at hc
          · cases hc; simp [noX] at hn
          · cases hc
        · cases hc
      · cases hc
    · cases hc
  | _ => intros; rfl
theorem noX_strip : ∀ {x : XCode}, noX (stripF x) = noX x := by
  intro x
  induction x <;> simp_all [stripF, noX]
def Anch.it (w : World) (B : Nat) (Z0 : Nat → Prop) (G0 : Gh) (h0 : Heap) (Ψ : Option XExit → Gh → Heap → World → Prop)
    (hstep : ∀ {p : Option XExit} {G : Gh} {h : Heap} {w : World} {G' : Gh} {h' : Heap} {w' : World}, Ψ p G h w → Ext G h w G' h' w' → Bl B w w' → Ψ p G' h' w')
    (hshut : ∀ {Z0 : Nat → Prop} {p : Option XExit} {G : Gh} {h : Heap} {w1 w2 : World}, HRep B Z0 G h w1 → Ψ p G h w1 → Shut w.heap.size w1 w2 → Ψ p G h w2) : Anch B :=
  ⟨w.heap.size, fun g G h w' => ∃ p, g = gOf p ∧ Ext G0 h0 w G h w' ∧ Ψ p G h w' ∧ w.heap.size ≤ w'.heap.size, fun ⟨_, _, _, _, h⟩ => h,
    fun ⟨p, h1, h2, h3, h4⟩ x b => ⟨p, h1, h2.trans x, hstep h3 x b, Nat.le_trans h4 b.size⟩,
    fun r ⟨p, h1, h2, h3, h4⟩ s => ⟨p, h1, h2.trans (r.cells (by rw [s.size]; exact Nat.le_refl _) s.cells).2, hshut r h3 s, by rw [s.size]; exact h4⟩⟩
/-- A FUNCTION THAT IS LOOPED OVER, by its body -/
theorem it_introX (hm : P.follows .mixedOrders = true) {f : FuncId} {off : Nat} {X : XFn} {s0 : Nat} (hc : compFnAt P f off = some { X with sites := s0, body := stripF X.body }) (hres0 : X.results = []) (hnx : noX X.body = true) {cap : List PV} {Y : YT} (hYm : YMono Y) {K : Option XExit → Heap → Prop} {h0 : Heap}
    (hlen : cap.length + 1 ≤ X.ntmps) (ho : cap.all one = true)
    (hx : ∀ (l : Nat) (Q : XPost), (∀ p vs h, vs.getD X.vars.length .undef = gOf p → K p h → Q .ret vs h) → (∀ p vs h, vs.getD X.vars.length .undef = gOf p → K p h → Q .normal vs h) →
      Xw (fnY P l X.vars.length Y hYm) X.body Q ((X.vars.map fun s => (.fn (.yield l) [] [] :: cap).getD s .undef) ++ [gOf none]) h0) : IT P (.fn (.func f) [] cap) Y h0 K := by
  unfold compFnAt at hc
  dsimp only at hc
  split at hc
  · cases hc
  · rename_i fn hfn
    split at hc
    · cases hc
    · rename_i c hbody
      split at hc
      · rename_i x k rs hcode hres
        split at hc
        · rename_i hcond
          obtain ⟨hnm, hnd, hall, hpar⟩ := hcond
          obtain ⟨nt, vs0, si0, re0, bo0⟩ := X
          simp only [Option.some.injEq, XFn.mk.injEq] at hc
          obtain ⟨rfl, rfl, rfl, rfl, hb0⟩ := hc
          rw [hb0] at hcode
          simp only at hres0 hlen hx hnx
          subst hres0
          refine ⟨f, cap, rfl, by unfold callable; rw [hfn]; simpa [hbody] using hnm, ho, fun B Z0 G0 w vc l Ψ hr hcp hstep hshut hY hΨ => ?_⟩
          refine (callsIn_fz (ρ := none) (n := 0)).1 (callsIn_of_wp_marks hfn hbody trivial ?_)
          have hsz : (#[.func (.yield l) #[] #[]] ++ vc : Array Value).size = cap.length + 1 := by simp [hcp.1]; omega
          have hargs : ∀ (i : Nat) p, (PV.fn (.yield l) [] [] :: cap)[i]? = some p → ∃ u, (#[.func (.yield l) #[] #[]] ++ vc : Array Value)[i]? = some u ∧ VRep G0 h0 w D u p := fun i p hp => by
            cases i with
            | zero =>
              simp at hp; subst hp
              refine ⟨.func (.yield l) #[] #[], (Array.getElem?_append_left (by show 0 < 1; omega)).trans rfl, ?_⟩
              unfold D; unfold VRep
              exact ⟨_, _, rfl, ⟨rfl, fun i c hc => by simp at hc⟩, ⟨rfl, fun i c hc => by simp at hc⟩⟩
            | succ i =>
              obtain ⟨u, q1, q2⟩ := hcp.2 i p (by simpa using hp)
              refine ⟨u, ?_, q2⟩
              rw [Array.getElem?_append_right (by simp)]
              simpa using q1
          have hgn : ∀ (l : List PV) (g : PV) (n : Nat), l.length = n → (l ++ [g]).getD n .undef = g := fun l g n e => by
            subst e; simp [List.getD_eq_getElem?_getD]
          have hi : SInv B Z0 (Anch.it w B Z0 G0 h0 Ψ hstep hshut) (varsOf fn c) fn.ntmps (((varsOf fn c).map fun s => (.fn (.yield l) [] [] :: cap).getD s .undef) ++ [gOf none]) h0 { tmps := (#[.func (.yield l) #[] #[]] ++ vc) ++ Array.replicate (fn.ntmps - (#[.func (.yield l) #[] #[]] ++ vc : Array Value).size) undef, defers := [] } w := by
            refine ⟨G0, hr, fun i s hs => ?_, by rw [Array.size_append, Array.size_replicate]; omega, DefOk.nil, none, hgn _ _ _ (by simp), Ext.refl, hΨ, Nat.le_refl _⟩
            have hsN : s < fn.ntmps := by simpa [Nat.blt_eq] using List.all_eq_true.1 hall s (List.mem_of_getElem? hs)
            rw [List.getD_eq_getElem?_getD, List.getElem?_append_left (by simpa using (List.getElem?_eq_some_iff.1 hs).1), List.getElem?_map, hs]
            simp only [Option.map_some, Option.getD_some]
            by_cases hsa : s < (PV.fn (.yield l) [] [] :: cap).length
            · obtain ⟨u, h1, h2⟩ := hargs s _ (List.getElem?_eq_getElem hsa)
              refine ⟨u, ?_, ?_⟩
              · rw [Array.getElem?_append_left (by simp at hsa; omega)]; exact h1
              · rw [List.getD_eq_getElem?_getD, List.getElem?_eq_getElem hsa]; exact h2
            · refine ⟨undef, ?_, ?_⟩
              · rw [Array.getElem?_append_right (by simp at hsa; omega), Array.getElem?_replicate, if_pos (by simp at hsa; omega)]
              · rw [List.getD_eq_getElem?_getD, List.getElem?_eq_none (by omega)]; exact mk_undef
          have hfy : FyOk P B Z0 (Anch.it w B Z0 G0 h0 Ψ hstep hshut) none (varsOf fn c) (fnY P l (varsOf fn c).length Y hYm).fy := by
            rintro v args vars h1 K1 (hv | ⟨rfl, hv1, hv2, hv3⟩) G1 w1 u va r1 hpsi hu hva
            · exact fyI_ok hv r1 hpsi hu hva
            · right
              unfold D at hu; unfold VRep at hu
              obtain ⟨a1, a2, rfl, a3, a4⟩ := hu
              have e1 : a1 = #[] := Array.eq_empty_of_size_eq_zero (by simpa using a3.1)
              have e2 : a2 = #[] := Array.eq_empty_of_size_eq_zero (by simpa using a4.1)
              subst e1; subst e2
              obtain ⟨p0, g1, g2, g3, g4⟩ := hpsi
              have hp0 : p0 = none := gOf_inj (by rw [← g1]; exact hv1)
              subst hp0
              refine ⟨l, rfl, fun n => yieldAt_mono ?_ (hY hv3 r1 g3 hva n)⟩
              rintro e w2 ⟨p, h2, G2, rfl, k1, k2, k3, k4, k5, k6⟩
              refine ⟨.bool p.isNone, vars.set (varsOf fn c).length (gOf p), h2, .bool p.isNone, G2, rfl, k1, fun k hk => ?_, k2, k3, mk_bool, ⟨p, ?_, g2.trans k3, k4, by omega⟩, fun ds hd => k6 _ _ hd⟩
              · rw [List.getD_eq_getElem?_getD, List.getElem?_set_ne (by omega), List.getD_eq_getElem?_getD]
              · unfold gho; rw [List.getD_eq_getElem?_getD, List.getElem?_set_self (by omega)]; rfl
          refine code_soundF (FN := fnY P l (varsOf fn c).length Y hYm) hm (nodupN_spec hnd) rfl rfl hfy c (noR_of hcode (by rw [noX_strip]; exact hnx)) off k bo0 hcode (fun e vs h => (match e with | .exit _ => False | _ => True) ∧ ∃ p, vs.getD (varsOf fn c).length .undef = gOf p ∧ K p h) _ _ _ _ _ (by
            have := hx l (fun e vs h => (match e with | .exit _ => False | _ => True) ∧ ∃ p, vs.getD (varsOf fn c).length .undef = gOf p ∧ K p h) (fun p vs h e1 e2 => ⟨trivial, p, e1, e2⟩) (fun p vs h e1 e2 => ⟨trivial, p, e1, e2⟩)
            rw [Xw_eq] at this; exact this) hi fun e vars h a w' hi' he => ?_
          obtain ⟨he1, p, he2, he3⟩ := he
          have key : LeavesInM (fz none) 0 P fn a.tmps (fun e w' => ∃ u p h' G', e = .returned u ∧ K p h' ∧ HRep B Z0 G' h' w' ∧ Ext G0 h0 w G' h' w' ∧ Ψ p G' h' w') a.defers .returning w' := by
            obtain ⟨G, i1, i2, i3, ⟨Ds, d1, d2, d3⟩, p', g1, g2, g3, g4⟩ := hi'
            have hpp : p' = p := gOf_inj (by rw [← g1]; exact he2)
            subst hpp
            rw [d2]
            refine leaves_marks (m := w.heap.size) Ds w' d1 d3 fun w'' hs => ?_
            obtain ⟨j1, jx⟩ := i1.cells (w' := w'') (by rw [hs.size]; exact Nat.le_refl _) hs.cells
            have j2 : VarsR G h w'' (varsOf fn c) vars a := fun k s hk => by
              obtain ⟨v, h1, h2⟩ := i2 k s hk
              exact ⟨v, h1, h2.ext jx⟩
            obtain ⟨u, q0, _⟩ := res_val (P := P) (fn := fn) j1 j2 hres (l := []) rfl
            exact ⟨u, q0, u, p', h, G, rfl, he3, j1, g2.trans jx, hshut i1 g3 hs⟩
          cases e with
          | normal => exact key
          | ret => exact key
          | exit id => exact he1.elim
        · cases hc
      · cases hc
end
/-- a loop over a function, by the function's body -/
theorem rfor_mono {FN : FNs} {ps : List (Option Nat)} {a b : XCode} {vs : List PV} : YMono (loopY FN ps a b vs) := fun _ _ _ _ hk hh =>
  ⟨hh.1, Xw_mono (fun e vs h he => by
    cases e with
    | normal => exact Xw_mono (fun e vs h he => hk _ _ he) (show Xw FN b _ vs h from he)
    | exit id => exact he.elim
    | ret => exact he.elim) hh.2⟩
section
variable {P : Program} {Q : XPost} {vs : List PV} {h : Heap}
theorem range_of (hm : P.follows .mixedOrders = true) {f : FuncId} {off s0 : Nat} {X : XFn} (hc : compFnAt P f off = some { X with sites := s0, body := stripF X.body }) (hres0 : X.results = []) (hnx : noX X.body = true) {cap : List PV} {ps : List (Option Nat)} {a b : XCode} (hlen : cap.length + 1 ≤ X.ntmps) (ho : cap.all one = true)
    (hx : ∀ (l : Nat) (Q2 : XPost), (∀ p vs2 h, vs2.getD X.vars.length .undef = gOf p → Q (unp p) vs h → Q2 .ret vs2 h) → (∀ p vs2 h, vs2.getD X.vars.length .undef = gOf p → Q (unp p) vs h → Q2 .normal vs2 h) →
      Xw (fnY P l X.vars.length (loopY (fns P) ps a b vs) rfor_mono) X.body Q2 ((X.vars.map fun s => (.fn (.yield l) [] [] :: cap).getD s .undef) ++ [gOf none]) h) :
    Xi (fns P) (.fn (.func f) [] cap) ps a b Q vs h := it_introX hm hc hres0 hnx rfor_mono hlen ho hx
/-- the call of the loop's body -/
theorem yield_of {l n : Nat} {Y : YT} {hm : YMono Y} {args : List PV} {var : Option Nat} {xs : List XOper} {loc : List PV} {K : XSt → Prop} (h1 : vs.getD n .undef = gOf none) (h2 : vs.length = n + 1)
    (hk : Y args h fun p h' => h'.length = h.length ∧ Xr (fnY P l n Y hm) xs ⟨loc ++ [.bool p.isNone], setO (vs.set n (gOf p)) var (.bool p.isNone), h'⟩ K) : Xy (fnY P l n Y hm) (.fn (.yield l) [] []) args var xs ⟨loc, vs, h⟩ K := .inr ⟨rfl, h1, h2, hk⟩
end
end Go.Proofs.Ytgdcogoacnghkaa.Am
/-
  The rules by which simp runs the machine.
-/
namespace Go.Proofs.Ytgdcogoacnghkaa.Am
set_option linter.unusedSimpArgs false
set_option linter.unusedVariables false
set_option linter.unusedSectionVars false
section
@[simp] theorem pureC_undef  : pureC (.undef) = false := rfl
@[simp] theorem pureC_bool {b : Bool} : pureC (.bool b) = true := rfl
@[simp] theorem pureC_int {k : IntKind} {n : Int} : pureC (.int k n) = true := rfl
@[simp] theorem pureC_str {s : ByteArray} : pureC (.str s) = true := rfl
@[simp] theorem pureC_lit {v : Value} : pureC (.lit v) = true := rfl
@[simp] theorem pureC_nils  : pureC (.nils) = false := rfl
@[simp] theorem pureC_slc {es : List PV} : pureC (.slc es) = true := rfl
@[simp] theorem pureC_uslc {es : List PV} : pureC (.uslc es) = false := rfl
@[simp] theorem pureC_own {k : Nat} {g : Nat} {gl : Nat} {s : Nat} {o : Nat} {l : Nat} : pureC (.own k g gl s o l) = false := rfl
@[simp] theorem pureC_nown {k : Nat} {g : Nat} {ver : Nat} {i : Nat} {j : Nat} {o : Nat} {l : Nat} : pureC (.nown k g ver i j o l) = false := rfl
@[simp] theorem pureC_ptr {k : Nat} {g : Nat} {o : Nat} : pureC (.ptr k g o) = false := rfl
@[simp] theorem pureC_eptr {k : Nat} {g : Nat} {gl : Nat} {s : Nat} {i : Nat} {j : Nat} : pureC (.eptr k g gl s i j) = false := rfl
@[simp] theorem pureC_nptr {k : Nat} {g : Nat} {ver : Nat} {s : Nat} {i : Nat} {j : Nat} {m : Nat} {l : Nat} : pureC (.nptr k g ver s i j m l) = false := rfl
@[simp] theorem pureC_fptr {cs : List PV} : pureC (.fptr cs) = false := rfl
@[simp] theorem pureC_agg {cs : List PV} : pureC (.agg cs) = false := rfl
@[simp] theorem pureC_tup {vs : List PV} : pureC (.tup vs) = false := rfl
@[simp] theorem pureC_fn {f : Go.Fn} {a : List PV} {c : List PV} : pureC (.fn f a c) = false := rfl
@[simp] theorem pureC_lst {es : List PV} : pureC (.lst es) = false := rfl
@[simp] theorem pureC_any  : pureC .any = false := rfl
@[simp] theorem isU_undef  : isU (.undef) = false := rfl
@[simp] theorem isU_bool {b : Bool} : isU (.bool b) = false := rfl
@[simp] theorem isU_int {k : IntKind} {n : Int} : isU (.int k n) = false := rfl
@[simp] theorem isU_str {s : ByteArray} : isU (.str s) = false := rfl
@[simp] theorem isU_lit {v : Value} : isU (.lit v) = false := rfl
@[simp] theorem isU_nils  : isU (.nils) = true := rfl
@[simp] theorem isU_slc {es : List PV} : isU (.slc es) = false := rfl
@[simp] theorem isU_uslc {es : List PV} : isU (.uslc es) = true := rfl
@[simp] theorem isU_own {k : Nat} {g : Nat} {gl : Nat} {s : Nat} {o : Nat} {l : Nat} : isU (.own k g gl s o l) = false := rfl
@[simp] theorem isU_nown {k : Nat} {g : Nat} {ver : Nat} {i : Nat} {j : Nat} {o : Nat} {l : Nat} : isU (.nown k g ver i j o l) = false := rfl
@[simp] theorem isU_ptr {k : Nat} {g : Nat} {o : Nat} : isU (.ptr k g o) = false := rfl
@[simp] theorem isU_eptr {k : Nat} {g : Nat} {gl : Nat} {s : Nat} {i : Nat} {j : Nat} : isU (.eptr k g gl s i j) = false := rfl
@[simp] theorem isU_nptr {k : Nat} {g : Nat} {ver : Nat} {s : Nat} {i : Nat} {j : Nat} {m : Nat} {l : Nat} : isU (.nptr k g ver s i j m l) = false := rfl
@[simp] theorem isU_fptr {cs : List PV} : isU (.fptr cs) = false := rfl
@[simp] theorem isU_agg {cs : List PV} : isU (.agg cs) = false := rfl
@[simp] theorem isU_tup {vs : List PV} : isU (.tup vs) = false := rfl
@[simp] theorem isU_fn {f : Go.Fn} {a : List PV} {c : List PV} : isU (.fn f a c) = false := rfl
@[simp] theorem isU_lst {es : List PV} : isU (.lst es) = false := rfl
@[simp] theorem isU_any  : isU .any = false := rfl
@[simp] theorem one_undef  : one (.undef) = false := rfl
@[simp] theorem one_bool {b : Bool} : one (.bool b) = true := rfl
@[simp] theorem one_int {k : IntKind} {n : Int} : one (.int k n) = true := rfl
@[simp] theorem one_str {s : ByteArray} : one (.str s) = true := rfl
@[simp] theorem one_lit {v : Value} : one (.lit v) = true := rfl
@[simp] theorem one_nils  : one (.nils) = true := rfl
@[simp] theorem one_slc {es : List PV} : one (.slc es) = true := rfl
@[simp] theorem one_uslc {es : List PV} : one (.uslc es) = false := rfl
@[simp] theorem one_own {k : Nat} {g : Nat} {gl : Nat} {s : Nat} {o : Nat} {l : Nat} : one (.own k g gl s o l) = true := rfl
@[simp] theorem one_nown {k : Nat} {g : Nat} {ver : Nat} {i : Nat} {j : Nat} {o : Nat} {l : Nat} : one (.nown k g ver i j o l) = true := rfl
@[simp] theorem one_ptr {k : Nat} {g : Nat} {o : Nat} : one (.ptr k g o) = true := rfl
@[simp] theorem one_eptr {k : Nat} {g : Nat} {gl : Nat} {s : Nat} {i : Nat} {j : Nat} : one (.eptr k g gl s i j) = true := rfl
@[simp] theorem one_nptr {k : Nat} {g : Nat} {ver : Nat} {s : Nat} {i : Nat} {j : Nat} {m : Nat} {l : Nat} : one (.nptr k g ver s i j m l) = true := rfl
@[simp] theorem one_fptr {cs : List PV} : one (.fptr cs) = true := rfl
@[simp] theorem one_agg {cs : List PV} : one (.agg cs) = false := rfl
@[simp] theorem one_tup {vs : List PV} : one (.tup vs) = false := rfl
@[simp] theorem one_fn {f : Go.Fn} {a : List PV} {c : List PV} : one (.fn f a c) = false := rfl
@[simp] theorem one_lst {es : List PV} : one (.lst es) = false := rfl
@[simp] theorem one_any  : one .any = true := rfl
@[simp] theorem isStr_undef  : isStr (.undef) = false := rfl
@[simp] theorem isStr_bool {b : Bool} : isStr (.bool b) = false := rfl
@[simp] theorem isStr_int {k : IntKind} {n : Int} : isStr (.int k n) = false := rfl
@[simp] theorem isStr_str {s : ByteArray} : isStr (.str s) = true := rfl
@[simp] theorem isStr_lit {v : Value} : isStr (.lit v) = false := rfl
@[simp] theorem isStr_nils  : isStr (.nils) = false := rfl
@[simp] theorem isStr_slc {es : List PV} : isStr (.slc es) = false := rfl
@[simp] theorem isStr_uslc {es : List PV} : isStr (.uslc es) = false := rfl
@[simp] theorem isStr_own {k : Nat} {g : Nat} {gl : Nat} {s : Nat} {o : Nat} {l : Nat} : isStr (.own k g gl s o l) = false := rfl
@[simp] theorem isStr_nown {k : Nat} {g : Nat} {ver : Nat} {i : Nat} {j : Nat} {o : Nat} {l : Nat} : isStr (.nown k g ver i j o l) = false := rfl
@[simp] theorem isStr_ptr {k : Nat} {g : Nat} {o : Nat} : isStr (.ptr k g o) = false := rfl
@[simp] theorem isStr_eptr {k : Nat} {g : Nat} {gl : Nat} {s : Nat} {i : Nat} {j : Nat} : isStr (.eptr k g gl s i j) = false := rfl
@[simp] theorem isStr_nptr {k : Nat} {g : Nat} {ver : Nat} {s : Nat} {i : Nat} {j : Nat} {m : Nat} {l : Nat} : isStr (.nptr k g ver s i j m l) = false := rfl
@[simp] theorem isStr_fptr {cs : List PV} : isStr (.fptr cs) = false := rfl
@[simp] theorem isStr_agg {cs : List PV} : isStr (.agg cs) = false := rfl
@[simp] theorem isStr_tup {vs : List PV} : isStr (.tup vs) = false := rfl
@[simp] theorem isStr_fn {f : Go.Fn} {a : List PV} {c : List PV} : isStr (.fn f a c) = false := rfl
@[simp] theorem isStr_lst {es : List PV} : isStr (.lst es) = false := rfl
@[simp] theorem isStr_any  : isStr .any = false := rfl
@[simp] theorem isOwn_undef  : isOwn (.undef) = false := rfl
@[simp] theorem isOwn_bool {b : Bool} : isOwn (.bool b) = false := rfl
@[simp] theorem isOwn_int {k : IntKind} {n : Int} : isOwn (.int k n) = false := rfl
@[simp] theorem isOwn_str {s : ByteArray} : isOwn (.str s) = false := rfl
@[simp] theorem isOwn_lit {v : Value} : isOwn (.lit v) = false := rfl
@[simp] theorem isOwn_nils  : isOwn (.nils) = false := rfl
@[simp] theorem isOwn_slc {es : List PV} : isOwn (.slc es) = false := rfl
@[simp] theorem isOwn_uslc {es : List PV} : isOwn (.uslc es) = false := rfl
@[simp] theorem isOwn_own {k : Nat} {g : Nat} {gl : Nat} {s : Nat} {o : Nat} {l : Nat} : isOwn (.own k g gl s o l) = true := rfl
@[simp] theorem isOwn_nown {k : Nat} {g : Nat} {ver : Nat} {i : Nat} {j : Nat} {o : Nat} {l : Nat} : isOwn (.nown k g ver i j o l) = false := rfl
@[simp] theorem isOwn_ptr {k : Nat} {g : Nat} {o : Nat} : isOwn (.ptr k g o) = false := rfl
@[simp] theorem isOwn_eptr {k : Nat} {g : Nat} {gl : Nat} {s : Nat} {i : Nat} {j : Nat} : isOwn (.eptr k g gl s i j) = false := rfl
@[simp] theorem isOwn_nptr {k : Nat} {g : Nat} {ver : Nat} {s : Nat} {i : Nat} {j : Nat} {m : Nat} {l : Nat} : isOwn (.nptr k g ver s i j m l) = false := rfl
@[simp] theorem isOwn_fptr {cs : List PV} : isOwn (.fptr cs) = false := rfl
@[simp] theorem isOwn_agg {cs : List PV} : isOwn (.agg cs) = false := rfl
@[simp] theorem isOwn_tup {vs : List PV} : isOwn (.tup vs) = false := rfl
@[simp] theorem isOwn_fn {f : Go.Fn} {a : List PV} {c : List PV} : isOwn (.fn f a c) = false := rfl
@[simp] theorem isOwn_lst {es : List PV} : isOwn (.lst es) = false := rfl
@[simp] theorem isOwn_any  : isOwn .any = false := rfl
@[simp] theorem noS0_undef  : noS0 (.undef) = true := rfl
@[simp] theorem noS0_bool {b : Bool} : noS0 (.bool b) = true := rfl
@[simp] theorem noS0_int {k : IntKind} {n : Int} : noS0 (.int k n) = true := rfl
@[simp] theorem noS0_str {s : ByteArray} : noS0 (.str s) = true := rfl
@[simp] theorem noS0_lit {v : Value} : noS0 (.lit v) = true := rfl
@[simp] theorem noS0_nils  : noS0 (.nils) = true := rfl
@[simp] theorem noS0_slc {es : List PV} : noS0 (.slc es) = false := rfl
@[simp] theorem noS0_uslc {es : List PV} : noS0 (.uslc es) = false := rfl
@[simp] theorem noS0_own {k : Nat} {g : Nat} {gl : Nat} {s : Nat} {o : Nat} {l : Nat} : noS0 (.own k g gl s o l) = true := rfl
@[simp] theorem noS0_nown {k : Nat} {g : Nat} {ver : Nat} {i : Nat} {j : Nat} {o : Nat} {l : Nat} : noS0 (.nown k g ver i j o l) = true := rfl
@[simp] theorem noS0_ptr {k : Nat} {g : Nat} {o : Nat} : noS0 (.ptr k g o) = true := rfl
@[simp] theorem noS0_eptr {k : Nat} {g : Nat} {gl : Nat} {s : Nat} {i : Nat} {j : Nat} : noS0 (.eptr k g gl s i j) = true := rfl
@[simp] theorem noS0_nptr {k : Nat} {g : Nat} {ver : Nat} {s : Nat} {i : Nat} {j : Nat} {m : Nat} {l : Nat} : noS0 (.nptr k g ver s i j m l) = true := rfl
@[simp] theorem noS0_fptr {cs : List PV} : noS0 (.fptr cs) = true := rfl
@[simp] theorem noS0_agg {cs : List PV} : noS0 (.agg cs) = true := rfl
@[simp] theorem noS0_tup {vs : List PV} : noS0 (.tup vs) = true := rfl
@[simp] theorem noS0_fn {f : Go.Fn} {a : List PV} {c : List PV} : noS0 (.fn f a c) = true := rfl
@[simp] theorem noS0_lst {es : List PV} : noS0 (.lst es) = true := rfl
@[simp] theorem noS0_any  : noS0 .any = true := rfl
@[simp] theorem ecells_undef  : ecells (.undef) = [.undef] := rfl
@[simp] theorem comps_undef  : comps (.undef) = [.undef] := rfl
@[simp] theorem frzC_undef  : frzC (.undef) = (.undef) := rfl
@[simp] theorem frzE_undef  : frzE (.undef) = (.undef) := rfl
@[simp] theorem noRefE_undef  : noRefE (.undef) = false := rfl
@[simp] theorem ldC_undef {K G V I J : Nat}  : ldC K G V I J (.undef) = (.undef) := rfl
@[simp] theorem noS1_undef  : noS1 (.undef) = true := rfl
@[simp] theorem noS2_undef  : noS2 (.undef) = true := rfl
@[simp] theorem ecells_bool {b : Bool} : ecells (.bool b) = [.bool b] := rfl
@[simp] theorem comps_bool {b : Bool} : comps (.bool b) = [.bool b] := rfl
@[simp] theorem frzC_bool {b : Bool} : frzC (.bool b) = (.bool b) := rfl
@[simp] theorem frzE_bool {b : Bool} : frzE (.bool b) = (.bool b) := rfl
@[simp] theorem noRefE_bool {b : Bool} : noRefE (.bool b) = true := rfl
@[simp] theorem ldC_bool {K G V I J : Nat} {b : Bool} : ldC K G V I J (.bool b) = (.bool b) := rfl
@[simp] theorem noS1_bool {b : Bool} : noS1 (.bool b) = true := rfl
@[simp] theorem noS2_bool {b : Bool} : noS2 (.bool b) = true := rfl
@[simp] theorem ecells_int {k : IntKind} {n : Int} : ecells (.int k n) = [.int k n] := rfl
@[simp] theorem comps_int {k : IntKind} {n : Int} : comps (.int k n) = [.int k n] := rfl
@[simp] theorem frzC_int {k : IntKind} {n : Int} : frzC (.int k n) = (.int k n) := rfl
@[simp] theorem frzE_int {k : IntKind} {n : Int} : frzE (.int k n) = (.int k n) := rfl
@[simp] theorem noRefE_int {k : IntKind} {n : Int} : noRefE (.int k n) = true := rfl
@[simp] theorem ldC_int {K G V I J : Nat} {k : IntKind} {n : Int} : ldC K G V I J (.int k n) = (.int k n) := rfl
@[simp] theorem noS1_int {k : IntKind} {n : Int} : noS1 (.int k n) = true := rfl
@[simp] theorem noS2_int {k : IntKind} {n : Int} : noS2 (.int k n) = true := rfl
@[simp] theorem ecells_str {s : ByteArray} : ecells (.str s) = [.str s] := rfl
@[simp] theorem comps_str {s : ByteArray} : comps (.str s) = [.str s] := rfl
@[simp] theorem frzC_str {s : ByteArray} : frzC (.str s) = (.str s) := rfl
@[simp] theorem frzE_str {s : ByteArray} : frzE (.str s) = (.str s) := rfl
@[simp] theorem noRefE_str {s : ByteArray} : noRefE (.str s) = true := rfl
@[simp] theorem ldC_str {K G V I J : Nat} {s : ByteArray} : ldC K G V I J (.str s) = (.str s) := rfl
@[simp] theorem noS1_str {s : ByteArray} : noS1 (.str s) = true := rfl
@[simp] theorem noS2_str {s : ByteArray} : noS2 (.str s) = true := rfl
@[simp] theorem ecells_lit {v : Value} : ecells (.lit v) = [.lit v] := rfl
@[simp] theorem comps_lit {v : Value} : comps (.lit v) = [.lit v] := rfl
@[simp] theorem frzC_lit {v : Value} : frzC (.lit v) = (.lit v) := rfl
@[simp] theorem frzE_lit {v : Value} : frzE (.lit v) = (.lit v) := rfl
@[simp] theorem noRefE_lit {v : Value} : noRefE (.lit v) = true := rfl
@[simp] theorem ldC_lit {K G V I J : Nat} {v : Value} : ldC K G V I J (.lit v) = (.lit v) := rfl
@[simp] theorem noS1_lit {v : Value} : noS1 (.lit v) = true := rfl
@[simp] theorem noS2_lit {v : Value} : noS2 (.lit v) = true := rfl
@[simp] theorem ecells_nils  : ecells (.nils) = [.nils] := rfl
@[simp] theorem comps_nils  : comps (.nils) = [.nils] := rfl
@[simp] theorem frzC_nils  : frzC (.nils) = (.slc []) := rfl
@[simp] theorem frzE_nils  : frzE (.nils) = (.slc []) := rfl
@[simp] theorem noRefE_nils  : noRefE (.nils) = true := rfl
@[simp] theorem ldC_nils {K G V I J : Nat}  : ldC K G V I J (.nils) = (.nils) := rfl
@[simp] theorem noS1_nils  : noS1 (.nils) = true := rfl
@[simp] theorem noS2_nils  : noS2 (.nils) = true := rfl
@[simp] theorem ecells_slc {es : List PV} : ecells (.slc es) = [.slc es] := rfl
@[simp] theorem comps_slc {es : List PV} : comps (.slc es) = [.slc es] := rfl
@[simp] theorem frzC_slc {es : List PV} : frzC (.slc es) = (.slc es) := rfl
@[simp] theorem frzE_slc {es : List PV} : frzE (.slc es) = (.slc es) := rfl
@[simp] theorem noRefE_slc {es : List PV} : noRefE (.slc es) = true := rfl
@[simp] theorem ldC_slc {K G V I J : Nat} {es : List PV} : ldC K G V I J (.slc es) = (.slc es) := rfl
@[simp] theorem noS1_slc {es : List PV} : noS1 (.slc es) = false := rfl
@[simp] theorem noS2_slc {es : List PV} : noS2 (.slc es) = false := rfl
@[simp] theorem ecells_uslc {es : List PV} : ecells (.uslc es) = [.uslc es] := rfl
@[simp] theorem comps_uslc {es : List PV} : comps (.uslc es) = [.uslc es] := rfl
@[simp] theorem frzC_uslc {es : List PV} : frzC (.uslc es) = (.slc es) := rfl
@[simp] theorem frzE_uslc {es : List PV} : frzE (.uslc es) = (.slc es) := rfl
@[simp] theorem noRefE_uslc {es : List PV} : noRefE (.uslc es) = true := rfl
@[simp] theorem ldC_uslc {K G V I J : Nat} {es : List PV} : ldC K G V I J (.uslc es) = (.nown K G V I J 0 es.length) := rfl
@[simp] theorem noS1_uslc {es : List PV} : noS1 (.uslc es) = (es.all fun e => (ecells e).all noS0) := rfl
@[simp] theorem noS2_uslc {es : List PV} : noS2 (.uslc es) = (es.all fun e => (ecells e).all noS1) := rfl
@[simp] theorem ecells_own {k : Nat} {g : Nat} {gl : Nat} {s : Nat} {o : Nat} {l : Nat} : ecells (.own k g gl s o l) = [.own k g gl s o l] := rfl
@[simp] theorem comps_own {k : Nat} {g : Nat} {gl : Nat} {s : Nat} {o : Nat} {l : Nat} : comps (.own k g gl s o l) = [.own k g gl s o l] := rfl
@[simp] theorem frzC_own {k : Nat} {g : Nat} {gl : Nat} {s : Nat} {o : Nat} {l : Nat} : frzC (.own k g gl s o l) = (.own k g gl s o l) := rfl
@[simp] theorem frzE_own {k : Nat} {g : Nat} {gl : Nat} {s : Nat} {o : Nat} {l : Nat} : frzE (.own k g gl s o l) = (.own k g gl s o l) := rfl
@[simp] theorem noRefE_own {k : Nat} {g : Nat} {gl : Nat} {s : Nat} {o : Nat} {l : Nat} : noRefE (.own k g gl s o l) = false := rfl
@[simp] theorem ldC_own {K G V I J : Nat} {k : Nat} {g : Nat} {gl : Nat} {s : Nat} {o : Nat} {l : Nat} : ldC K G V I J (.own k g gl s o l) = (.own k g gl s o l) := rfl
@[simp] theorem noS1_own {k : Nat} {g : Nat} {gl : Nat} {s : Nat} {o : Nat} {l : Nat} : noS1 (.own k g gl s o l) = true := rfl
@[simp] theorem noS2_own {k : Nat} {g : Nat} {gl : Nat} {s : Nat} {o : Nat} {l : Nat} : noS2 (.own k g gl s o l) = true := rfl
@[simp] theorem ecells_nown {k : Nat} {g : Nat} {ver : Nat} {i : Nat} {j : Nat} {o : Nat} {l : Nat} : ecells (.nown k g ver i j o l) = [.nown k g ver i j o l] := rfl
@[simp] theorem comps_nown {k : Nat} {g : Nat} {ver : Nat} {i : Nat} {j : Nat} {o : Nat} {l : Nat} : comps (.nown k g ver i j o l) = [.nown k g ver i j o l] := rfl
@[simp] theorem frzC_nown {k : Nat} {g : Nat} {ver : Nat} {i : Nat} {j : Nat} {o : Nat} {l : Nat} : frzC (.nown k g ver i j o l) = (.nown k g ver i j o l) := rfl
@[simp] theorem frzE_nown {k : Nat} {g : Nat} {ver : Nat} {i : Nat} {j : Nat} {o : Nat} {l : Nat} : frzE (.nown k g ver i j o l) = (.nown k g ver i j o l) := rfl
@[simp] theorem noRefE_nown {k : Nat} {g : Nat} {ver : Nat} {i : Nat} {j : Nat} {o : Nat} {l : Nat} : noRefE (.nown k g ver i j o l) = false := rfl
@[simp] theorem ldC_nown {K G V I J : Nat} {k : Nat} {g : Nat} {ver : Nat} {i : Nat} {j : Nat} {o : Nat} {l : Nat} : ldC K G V I J (.nown k g ver i j o l) = (.nown k g ver i j o l) := rfl
@[simp] theorem noS1_nown {k : Nat} {g : Nat} {ver : Nat} {i : Nat} {j : Nat} {o : Nat} {l : Nat} : noS1 (.nown k g ver i j o l) = true := rfl
@[simp] theorem noS2_nown {k : Nat} {g : Nat} {ver : Nat} {i : Nat} {j : Nat} {o : Nat} {l : Nat} : noS2 (.nown k g ver i j o l) = true := rfl
@[simp] theorem ecells_ptr {k : Nat} {g : Nat} {o : Nat} : ecells (.ptr k g o) = [.ptr k g o] := rfl
@[simp] theorem comps_ptr {k : Nat} {g : Nat} {o : Nat} : comps (.ptr k g o) = [.ptr k g o] := rfl
@[simp] theorem frzC_ptr {k : Nat} {g : Nat} {o : Nat} : frzC (.ptr k g o) = (.ptr k g o) := rfl
@[simp] theorem frzE_ptr {k : Nat} {g : Nat} {o : Nat} : frzE (.ptr k g o) = (.ptr k g o) := rfl
@[simp] theorem noRefE_ptr {k : Nat} {g : Nat} {o : Nat} : noRefE (.ptr k g o) = false := rfl
@[simp] theorem ldC_ptr {K G V I J : Nat} {k : Nat} {g : Nat} {o : Nat} : ldC K G V I J (.ptr k g o) = (.ptr k g o) := rfl
@[simp] theorem noS1_ptr {k : Nat} {g : Nat} {o : Nat} : noS1 (.ptr k g o) = true := rfl
@[simp] theorem noS2_ptr {k : Nat} {g : Nat} {o : Nat} : noS2 (.ptr k g o) = true := rfl
@[simp] theorem ecells_eptr {k : Nat} {g : Nat} {gl : Nat} {s : Nat} {i : Nat} {j : Nat} : ecells (.eptr k g gl s i j) = [.eptr k g gl s i j] := rfl
@[simp] theorem comps_eptr {k : Nat} {g : Nat} {gl : Nat} {s : Nat} {i : Nat} {j : Nat} : comps (.eptr k g gl s i j) = [.eptr k g gl s i j] := rfl
@[simp] theorem frzC_eptr {k : Nat} {g : Nat} {gl : Nat} {s : Nat} {i : Nat} {j : Nat} : frzC (.eptr k g gl s i j) = (.eptr k g gl s i j) := rfl
@[simp] theorem frzE_eptr {k : Nat} {g : Nat} {gl : Nat} {s : Nat} {i : Nat} {j : Nat} : frzE (.eptr k g gl s i j) = (.eptr k g gl s i j) := rfl
@[simp] theorem noRefE_eptr {k : Nat} {g : Nat} {gl : Nat} {s : Nat} {i : Nat} {j : Nat} : noRefE (.eptr k g gl s i j) = false := rfl
@[simp] theorem ldC_eptr {K G V I J : Nat} {k : Nat} {g : Nat} {gl : Nat} {s : Nat} {i : Nat} {j : Nat} : ldC K G V I J (.eptr k g gl s i j) = (.eptr k g gl s i j) := rfl
@[simp] theorem noS1_eptr {k : Nat} {g : Nat} {gl : Nat} {s : Nat} {i : Nat} {j : Nat} : noS1 (.eptr k g gl s i j) = true := rfl
@[simp] theorem noS2_eptr {k : Nat} {g : Nat} {gl : Nat} {s : Nat} {i : Nat} {j : Nat} : noS2 (.eptr k g gl s i j) = true := rfl
@[simp] theorem ecells_nptr {k : Nat} {g : Nat} {ver : Nat} {s : Nat} {i : Nat} {j : Nat} {m : Nat} {l : Nat} : ecells (.nptr k g ver s i j m l) = [.nptr k g ver s i j m l] := rfl
@[simp] theorem comps_nptr {k : Nat} {g : Nat} {ver : Nat} {s : Nat} {i : Nat} {j : Nat} {m : Nat} {l : Nat} : comps (.nptr k g ver s i j m l) = [.nptr k g ver s i j m l] := rfl
@[simp] theorem frzC_nptr {k : Nat} {g : Nat} {ver : Nat} {s : Nat} {i : Nat} {j : Nat} {m : Nat} {l : Nat} : frzC (.nptr k g ver s i j m l) = (.nptr k g ver s i j m l) := rfl
@[simp] theorem frzE_nptr {k : Nat} {g : Nat} {ver : Nat} {s : Nat} {i : Nat} {j : Nat} {m : Nat} {l : Nat} : frzE (.nptr k g ver s i j m l) = (.nptr k g ver s i j m l) := rfl
@[simp] theorem noRefE_nptr {k : Nat} {g : Nat} {ver : Nat} {s : Nat} {i : Nat} {j : Nat} {m : Nat} {l : Nat} : noRefE (.nptr k g ver s i j m l) = false := rfl
@[simp] theorem ldC_nptr {K G V I J : Nat} {k : Nat} {g : Nat} {ver : Nat} {s : Nat} {i : Nat} {j : Nat} {m : Nat} {l : Nat} : ldC K G V I J (.nptr k g ver s i j m l) = (.nptr k g ver s i j m l) := rfl
@[simp] theorem noS1_nptr {k : Nat} {g : Nat} {ver : Nat} {s : Nat} {i : Nat} {j : Nat} {m : Nat} {l : Nat} : noS1 (.nptr k g ver s i j m l) = true := rfl
@[simp] theorem noS2_nptr {k : Nat} {g : Nat} {ver : Nat} {s : Nat} {i : Nat} {j : Nat} {m : Nat} {l : Nat} : noS2 (.nptr k g ver s i j m l) = true := rfl
@[simp] theorem ecells_fptr {cs : List PV} : ecells (.fptr cs) = [.fptr cs] := rfl
@[simp] theorem comps_fptr {cs : List PV} : comps (.fptr cs) = [.fptr cs] := rfl
@[simp] theorem frzC_fptr {cs : List PV} : frzC (.fptr cs) = (.fptr cs) := rfl
@[simp] theorem frzE_fptr {cs : List PV} : frzE (.fptr cs) = (.fptr cs) := rfl
@[simp] theorem noRefE_fptr {cs : List PV} : noRefE (.fptr cs) = false := rfl
@[simp] theorem ldC_fptr {K G V I J : Nat} {cs : List PV} : ldC K G V I J (.fptr cs) = (.fptr cs) := rfl
@[simp] theorem noS1_fptr {cs : List PV} : noS1 (.fptr cs) = true := rfl
@[simp] theorem noS2_fptr {cs : List PV} : noS2 (.fptr cs) = true := rfl
@[simp] theorem ecells_agg {cs : List PV} : ecells (.agg cs) = cs := rfl
@[simp] theorem comps_agg {cs : List PV} : comps (.agg cs) = [.agg cs] := rfl
@[simp] theorem frzC_agg {cs : List PV} : frzC (.agg cs) = (.agg cs) := rfl
@[simp] theorem frzE_agg {cs : List PV} : frzE (.agg cs) = (.agg (cs.map frzC)) := rfl
@[simp] theorem noRefE_agg {cs : List PV} : noRefE (.agg cs) = (cs.all fun c => pureC c || isU c) := rfl
@[simp] theorem ldC_agg {K G V I J : Nat} {cs : List PV} : ldC K G V I J (.agg cs) = (.agg cs) := rfl
@[simp] theorem noS1_agg {cs : List PV} : noS1 (.agg cs) = true := rfl
@[simp] theorem noS2_agg {cs : List PV} : noS2 (.agg cs) = true := rfl
@[simp] theorem ecells_tup {vs : List PV} : ecells (.tup vs) = [.tup vs] := rfl
@[simp] theorem comps_tup {vs : List PV} : comps (.tup vs) = vs := rfl
@[simp] theorem frzC_tup {vs : List PV} : frzC (.tup vs) = (.tup vs) := rfl
@[simp] theorem frzE_tup {vs : List PV} : frzE (.tup vs) = (.tup vs) := rfl
@[simp] theorem noRefE_tup {vs : List PV} : noRefE (.tup vs) = false := rfl
@[simp] theorem ldC_tup {K G V I J : Nat} {vs : List PV} : ldC K G V I J (.tup vs) = (.tup vs) := rfl
@[simp] theorem noS1_tup {vs : List PV} : noS1 (.tup vs) = true := rfl
@[simp] theorem noS2_tup {vs : List PV} : noS2 (.tup vs) = true := rfl
@[simp] theorem ecells_fn {f : Go.Fn} {a : List PV} {c : List PV} : ecells (.fn f a c) = [.fn f a c] := rfl
@[simp] theorem ecells_lst {es : List PV} : ecells (.lst es) = [.lst es] := rfl
@[simp] theorem ecells_any  : ecells .any = [.any] := rfl
@[simp] theorem comps_fn {f : Go.Fn} {a : List PV} {c : List PV} : comps (.fn f a c) = [.fn f a c] := rfl
@[simp] theorem comps_lst {es : List PV} : comps (.lst es) = [.lst es] := rfl
@[simp] theorem comps_any  : comps .any = [.any] := rfl
@[simp] theorem frzC_fn {f : Go.Fn} {a : List PV} {c : List PV} : frzC (.fn f a c) = (.fn f a c) := rfl
@[simp] theorem frzC_lst {es : List PV} : frzC (.lst es) = (.lst es) := rfl
@[simp] theorem frzC_any  : frzC .any = .any := rfl
@[simp] theorem frzE_fn {f : Go.Fn} {a : List PV} {c : List PV} : frzE (.fn f a c) = (.fn f a c) := rfl
@[simp] theorem frzE_lst {es : List PV} : frzE (.lst es) = (.lst es) := rfl
@[simp] theorem frzE_any  : frzE .any = .any := rfl
@[simp] theorem noRefE_fn {f : Go.Fn} {a : List PV} {c : List PV} : noRefE (.fn f a c) = false := rfl
@[simp] theorem noRefE_lst {es : List PV} : noRefE (.lst es) = false := rfl
@[simp] theorem noRefE_any  : noRefE .any = false := rfl
@[simp] theorem ldC_fn {K G V I J : Nat} {f : Go.Fn} {a : List PV} {c : List PV} : ldC K G V I J (.fn f a c) = (.fn f a c) := rfl
@[simp] theorem ldC_lst {K G V I J : Nat} {es : List PV} : ldC K G V I J (.lst es) = (.lst es) := rfl
@[simp] theorem ldC_any {K G V I J : Nat}  : ldC K G V I J .any = .any := rfl
@[simp] theorem noS1_fn {f : Go.Fn} {a : List PV} {c : List PV} : noS1 (.fn f a c) = true := rfl
@[simp] theorem noS1_lst {es : List PV} : noS1 (.lst es) = true := rfl
@[simp] theorem noS1_any  : noS1 .any = true := rfl
@[simp] theorem noS2_fn {f : Go.Fn} {a : List PV} {c : List PV} : noS2 (.fn f a c) = true := rfl
@[simp] theorem noS2_lst {es : List PV} : noS2 (.lst es) = true := rfl
@[simp] theorem noS2_any  : noS2 .any = true := rfl
@[simp] theorem pureC_mlit {ks vs : List PV} : pureC (.mlit ks vs) = true := rfl
@[simp] theorem pureC_mapv {k g : Nat} : pureC (.mapv k g) = false := rfl
@[simp] theorem isU_mlit {ks vs : List PV} : isU (.mlit ks vs) = false := rfl
@[simp] theorem isU_mapv {k g : Nat} : isU (.mapv k g) = false := rfl
@[simp] theorem one_mlit {ks vs : List PV} : one (.mlit ks vs) = true := rfl
@[simp] theorem one_mapv {k g : Nat} : one (.mapv k g) = true := rfl
@[simp] theorem isStr_mlit {ks vs : List PV} : isStr (.mlit ks vs) = false := rfl
@[simp] theorem isStr_mapv {k g : Nat} : isStr (.mapv k g) = false := rfl
@[simp] theorem isOwn_mlit {ks vs : List PV} : isOwn (.mlit ks vs) = false := rfl
@[simp] theorem isOwn_mapv {k g : Nat} : isOwn (.mapv k g) = false := rfl
@[simp] theorem noRefE_mlit {ks vs : List PV} : noRefE (.mlit ks vs) = true := rfl
@[simp] theorem noRefE_mapv {k g : Nat} : noRefE (.mapv k g) = false := rfl
@[simp] theorem ecells_mlit {ks vs : List PV} : ecells (.mlit ks vs) = [.mlit ks vs] := rfl
@[simp] theorem ecells_mapv {k g : Nat} : ecells (.mapv k g) = [.mapv k g] := rfl
@[simp] theorem comps_mlit {ks vs : List PV} : comps (.mlit ks vs) = [.mlit ks vs] := rfl
@[simp] theorem comps_mapv {k g : Nat} : comps (.mapv k g) = [.mapv k g] := rfl
@[simp] theorem frzC_mlit {ks vs : List PV} : frzC (.mlit ks vs) = (.mlit ks vs) := rfl
@[simp] theorem frzC_mapv {k g : Nat} : frzC (.mapv k g) = (.mapv k g) := rfl
@[simp] theorem frzE_mlit {ks vs : List PV} : frzE (.mlit ks vs) = (.mlit ks vs) := rfl
@[simp] theorem frzE_mapv {k g : Nat} : frzE (.mapv k g) = (.mapv k g) := rfl
@[simp] theorem ldC_mlit {K G V I J : Nat} {ks vs : List PV} : ldC K G V I J (.mlit ks vs) = .mlit ks vs := rfl
@[simp] theorem ldC_mapv {K G V I J k g : Nat} : ldC K G V I J (.mapv k g) = .mapv k g := rfl
end
theorem allB {p : PV → Prop} (l : List Bool) (h : ∀ b, p (.bool b)) : ∀ x, x ∈ List.map PV.bool l → p x := fun x hx => by
  obtain ⟨b, _, rfl⟩ := List.mem_map.1 hx; exact h b
@[simp] theorem nr_map_bool (l : List Bool) : (List.map PV.bool l).all noRefE = true := List.all_eq_true.2 (allB l fun _ => rfl)
@[simp ↓] theorem nr_mem_bool (l : List Bool) : (∀ x, x ∈ List.map PV.bool l → noRefE x = true) = True := eq_true (allB l fun _ => rfl)
@[simp ↓] theorem sz_mem_bool (l : List Bool) : (∀ x, x ∈ List.map PV.bool l → (ecells x).length = 1) = True := eq_true (allB l fun _ => rfl)
@[simp ↓] theorem pu_mem_bool (l : List Bool) : (∀ x, x ∈ List.map PV.bool l → ∀ y, y ∈ ecells x → pureC y = true) = True := eq_true (allB l fun b y hy => by simp at hy; subst hy; rfl)
@[simp] theorem frz_bool : frzE ∘ PV.bool = PV.bool := rfl
@[simp] theorem frz_int (k : IntKind) : frzE ∘ PV.int k = PV.int k := rfl
theorem bytesL_map (l : List Int) : bytesL (l.map (PV.int .u8)) = some (l.map fun n => UInt8.ofNat n.toNat) := by
  induction l with
  | nil => rfl
  | cons a l ih => simp [bytesL, byte?, ih]
@[simp] theorem take_len_map {α β : Type} (f : α → β) (l : List α) : List.take l.length (List.map f l) = List.map f l := List.take_of_length_le (by simp)
/-- a byte of a string -/
def byt (n : Int) : UInt8 := UInt8.ofNat n.toNat
theorem byt_inj {a b : Int} (ha : 0 ≤ a ∧ a ≤ 255) (hb : 0 ≤ b ∧ b ≤ 255) (h : byt a = byt b) : a = b := by
  have := congrArg UInt8.toNat h
  simp [byt, UInt8.toNat_ofNat'] at this
  omega
@[simp] theorem ba_toList (l : List UInt8) : (ByteArray.mk ⟨l⟩).toList = l := by rw [ByteArray.toList_eq]
theorem beq_bytes : ∀ {a b : List Int}, (∀ x ∈ a, 0 ≤ x ∧ x ≤ 255) → (∀ x ∈ b, 0 ≤ x ∧ x ≤ 255) → (a.map (fun n => UInt8.ofNat n.toNat) == b.map fun n => UInt8.ofNat n.toNat) = decide (a = b)
  | [], [], _, _ => rfl
  | [], _ :: _, _, _ => rfl
  | _ :: _, [], _, _ => rfl
  | x :: a, y :: b, ha, hb => by
    have ih := beq_bytes (a := a) (b := b) (fun z hz => ha z (List.mem_cons_of_mem _ hz)) fun z hz => hb z (List.mem_cons_of_mem _ hz)
    simp only [List.map_cons, List.cons_beq_cons, ih, List.cons.injEq]
    by_cases hxy : x = y
    · subst hxy; simp
    · have : ¬ byt x = byt y := fun e => hxy (byt_inj (ha x (List.mem_cons_self ..)) (hb y (List.mem_cons_self ..)) e)
      unfold byt at this
      simp [hxy, this]
attribute [simp] bytesL_map r_mat matP r_rfor x_normal e_cally e_stuck setPs pend unp r_frz n_neg n_beq n_bne n_cast r_skip r_nil r_cons g_f g_t e_call o_some o_none r_reg r_seq r_condT r_condF r_block r_exit r_ret t_normal t_exit t_ret i_normal i_exit i_ret e_mv e_pick e_alloc e_box e_build e_mkarr e_lit e_load e_loadV e_store e_nilchk e_bin e_un e_conv e_convId e_convStr e_makeSlice e_slice e_fieldAddr e_field e_indexAddr e_indexAddrA e_indexA e_indexS e_extract e_callv e_len e_lenK e_minmax e_append e_appendF frzA e_copy e_mkfn e_allocA e_boxA e_loadA e_storeA e_sliceA e_eqS e_eqNil e_makeMap e_mapUpd e_lookup e_lookupT e_mapEntry e_entryStore
attribute [simp] gdO evO aop setO lenP binP unP upd sitesIn siteNos lkOf loadP takeE idxA addrOff sliceP sliceB asInt setAll fzV fzC settled sKs sVars sCells sCell sAdd sObj ren renV renO sRow sGen sHeap sVs sOk nodupN fin resVs resV outIds szsOk rvV rvE rvC oneV callOk rOk rcells thWs hasOwn hasOwnC frzH outH frzO frzR noS ksF genF thComps thCs thV thComp thC storeP embC embCs embE embEs srcP srcS srcZ appP appOk appDst copyP mkarrP buildP szOk kill purC purE setE ldCs reE foldMM idxAA loadAP storeAP sliceAP eqC eqCs nilP lstC fzL hasOwnL keyTag sameK mfind fn0 mvS mvR mapUpdP lookR lookupP embM lookTP mapEntryP entryStP List.idxOf?_cons List.idxOf?_nil
end Go.Proofs.Ytgdcogoacnghkaa.Am
