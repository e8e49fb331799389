/-
  A function that is looped over, by its body.
-/
import Derived.Test.YtalgbgeocpbadaaAmZb
namespace Go.Proofs.Ytalgbgeocpbadaa.Am
set_option linter.unusedSimpArgs false
set_option linter.unusedVariables false
set_option linter.unusedSectionVars false
open Go.RowKit
/-- the ghost: how a round was left -/
def gOf : Option XExit → PV
  | none => .undef
  | some .ret => .int .i64 0
  | some (.exit id) => .int .i64 ((id : Int) + 1)
  | some .normal => .int .i64 (-1)
theorem gOf_inj {p q : Option XExit} (h : gOf p = gOf q) : p = q := by
  rcases p with _ | p
  · rcases q with _ | q
    · rfl
    · cases q <;> cases h
  · rcases q with _ | q
    · cases p <;> cases h
    · cases p <;> cases q <;> simp only [gOf, PV.int.injEq, true_and] at h <;> first | rfl | omega | skip
      rename_i a b
      have : a = b := by omega
      rw [this]
def YMono (Y : YT) : Prop := ∀ (args : List PV) (h : Heap) (k k' : Option XExit → Heap → Prop), (∀ p h, k p h → k' p h) → Y args h k → Y args h k'
/-- what calls give within a function that is looped over: l: the loop; n: how many variables -/
def fnY (P : Program) (l n : Nat) (Y : YT) (hm : YMono Y) : FNs :=
  ⟨Fn P, FI P, fun v args vars h K => fyI P v args vars h K ∨ (v = .fn (.yield l) [] [] ∧ vars.getD n .undef = gOf none ∧ vars.length = n + 1 ∧ Y args h fun p h' => K (.bool p.isNone) (vars.set n (gOf p)) h'), IT P,
    fun hk h => h.imp (fun ⟨r, ws, h1, h2⟩ => ⟨r, ws, h1, hk _ _ _ h2⟩) fun ⟨h1, h2, h3, h4⟩ => ⟨h1, h2, h3, hm _ _ _ _ (fun _ _ => hk _ _ _) h4⟩, fun hk h => h.mono hk⟩
section
variable {P : Program} {B : Nat} {Z0 : Nat → Prop} {G G' : Gh} {h h' : Heap} {w w' : World}
theorem yieldAt_mono {F : Fence} {n l : Nat} {va : Array Value} {R R' : Ending → World → Prop} (hr : ∀ e w, R e w → R' e w) (hy : YieldAt F n P l va w R) : YieldAt F n P l va w R' := by
  obtain ⟨fn, t, a, b, h1, h2⟩ := hy
  exact ⟨fn, t, a, b, h1, h2.mono hr⟩
theorem noR_of {vs : List Nat} {N : Nat} : ∀ {c : Code} {k k' : Nat} {x : XCode}, compCode P vs N k c = some (x, k') → noX x = true → noR c = true := by
  intro c
  induction c with
  | seq a b iha ihb =>
    intro k k' x hc hn
    simp only [compCode] at hc
    split at hc
    · rename_i h1
      split at hc
      · rename_i h2
        cases hc
        simp only [noX, Bool.and_eq_true] at hn
        simp only [noR, Bool.and_eq_true]
        exact ⟨iha h1 hn.1, ihb h2 hn.2⟩
      · cases hc
    · cases hc
  | cond cd a b iha ihb =>
    intro k k' x hc hn
    simp only [compCode] at hc
    split at hc
    · rename_i h1
      split at hc
      · rename_i h2
        split at hc
        · cases hc
          simp only [noX, Bool.and_eq_true] at hn
          simp only [noR, Bool.and_eq_true]
          exact ⟨iha h1 hn.1, ihb h2 hn.2⟩
        · cases hc
      · cases hc
    · cases hc
  | block id b ih =>
    intro k k' x hc hn
    simp only [compCode] at hc
    split at hc
    · rename_i h1; cases hc; exact ih h1 hn
    · cases hc
  | loop b ih =>
    intro k k' x hc hn
    simp only [compCode] at hc
    split at hc
    · rename_i h1; cases hc; exact ih h1 hn
    · cases hc
  | scope b ih => intro k k' x hc hn; exact ih (show compCode P vs N k b = _ from hc) hn
  | rangeFunc g ps a b iha ihb =>
    intro k k' x hc hn
    simp only [compCode] at hc
    split at hc
    · split at hc
      · split at hc
        · split at hc
          · cases hc; simp [noX] at hn
          · cases hc
        · cases hc
      · cases hc
    · cases hc
  | _ => intros; rfl
theorem noX_strip : ∀ {x : XCode}, noX (stripF x) = noX x := by
  intro x
  induction x <;> simp_all [stripF, noX]
def Anch.it (w : World) (B : Nat) (Z0 : Nat → Prop) (G0 : Gh) (h0 : Heap) (Ψ : Option XExit → Gh → Heap → World → Prop)
    (hstep : ∀ {p : Option XExit} {G : Gh} {h : Heap} {w : World} {G' : Gh} {h' : Heap} {w' : World}, Ψ p G h w → Ext G h w G' h' w' → Bl B w w' → Ψ p G' h' w')
    (hshut : ∀ {Z0 : Nat → Prop} {p : Option XExit} {G : Gh} {h : Heap} {w1 w2 : World}, HRep B Z0 G h w1 → Ψ p G h w1 → Shut w.heap.size w1 w2 → Ψ p G h w2) : Anch B :=
  ⟨w.heap.size, fun g G h w' => ∃ p, g = gOf p ∧ Ext G0 h0 w G h w' ∧ Ψ p G h w' ∧ w.heap.size ≤ w'.heap.size, fun ⟨_, _, _, _, h⟩ => h,
    fun ⟨p, h1, h2, h3, h4⟩ x b => ⟨p, h1, h2.trans x, hstep h3 x b, Nat.le_trans h4 b.size⟩,
    fun r ⟨p, h1, h2, h3, h4⟩ s => ⟨p, h1, h2.trans (r.cells (by rw [s.size]; exact Nat.le_refl _) s.cells).2, hshut r h3 s, by rw [s.size]; exact h4⟩⟩
/-- A FUNCTION THAT IS LOOPED OVER, by its body -/
theorem it_introX (hm : P.follows .mixedOrders = true) {f : FuncId} {off : Nat} {X : XFn} {s0 : Nat} (hc : compFnAt P f off = some { X with sites := s0, body := stripF X.body }) (hres0 : X.results = []) (hnx : noX X.body = true) {cap : List PV} {Y : YT} (hYm : YMono Y) {K : Option XExit → Heap → Prop} {h0 : Heap}
    (hlen : cap.length + 1 ≤ X.ntmps) (ho : cap.all one = true)
    (hx : ∀ (l : Nat) (Q : XPost), (∀ p vs h, vs.getD X.vars.length .undef = gOf p → K p h → Q .ret vs h) → (∀ p vs h, vs.getD X.vars.length .undef = gOf p → K p h → Q .normal vs h) →
      Xw (fnY P l X.vars.length Y hYm) X.body Q ((X.vars.map fun s => (.fn (.yield l) [] [] :: cap).getD s .undef) ++ [gOf none]) h0) : IT P (.fn (.func f) [] cap) Y h0 K := by
  unfold compFnAt at hc
  dsimp only at hc
  split at hc
  · cases hc
  · rename_i fn hfn
    split at hc
    · cases hc
    · rename_i c hbody
      split at hc
      · rename_i x k rs hcode hres
        split at hc
        · rename_i hcond
          obtain ⟨hnm, hnd, hall, hpar⟩ := hcond
          obtain ⟨nt, vs0, si0, re0, bo0⟩ := X
          simp only [Option.some.injEq, XFn.mk.injEq] at hc
          obtain ⟨rfl, rfl, rfl, rfl, hb0⟩ := hc
          rw [hb0] at hcode
          simp only at hres0 hlen hx hnx
          subst hres0
          refine ⟨f, cap, rfl, by unfold callable; rw [hfn]; simpa [hbody] using hnm, ho, fun B Z0 G0 w vc l Ψ hr hcp hstep hshut hY hΨ => ?_⟩
          refine (callsIn_fz (ρ := none) (n := 0)).1 (callsIn_of_wp_marks hfn hbody trivial ?_)
          have hsz : (#[.func (.yield l) #[] #[]] ++ vc : Array Value).size = cap.length + 1 := by simp [hcp.1]; omega
          have hargs : ∀ (i : Nat) p, (PV.fn (.yield l) [] [] :: cap)[i]? = some p → ∃ u, (#[.func (.yield l) #[] #[]] ++ vc : Array Value)[i]? = some u ∧ VRep G0 h0 w D u p := fun i p hp => by
            cases i with
            | zero =>
              simp at hp; subst hp
              refine ⟨.func (.yield l) #[] #[], (Array.getElem?_append_left (by show 0 < 1; omega)).trans rfl, ?_⟩
              unfold D; unfold VRep
              exact ⟨_, _, rfl, ⟨rfl, fun i c hc => by simp at hc⟩, ⟨rfl, fun i c hc => by simp at hc⟩⟩
            | succ i =>
              obtain ⟨u, q1, q2⟩ := hcp.2 i p (by simpa using hp)
              refine ⟨u, ?_, q2⟩
              rw [Array.getElem?_append_right (by simp)]
              simpa using q1
          have hgn : ∀ (l : List PV) (g : PV) (n : Nat), l.length = n → (l ++ [g]).getD n .undef = g := fun l g n e => by
            subst e; simp [List.getD_eq_getElem?_getD]
          have hi : SInv B Z0 (Anch.it w B Z0 G0 h0 Ψ hstep hshut) (varsOf fn c) fn.ntmps (((varsOf fn c).map fun s => (.fn (.yield l) [] [] :: cap).getD s .undef) ++ [gOf none]) h0 { tmps := (#[.func (.yield l) #[] #[]] ++ vc) ++ Array.replicate (fn.ntmps - (#[.func (.yield l) #[] #[]] ++ vc : Array Value).size) undef, defers := [] } w := by
            refine ⟨G0, hr, fun i s hs => ?_, by rw [Array.size_append, Array.size_replicate]; omega, DefOk.nil, none, hgn _ _ _ (by simp), Ext.refl, hΨ, Nat.le_refl _⟩
            have hsN : s < fn.ntmps := by simpa [Nat.blt_eq] using List.all_eq_true.1 hall s (List.mem_of_getElem? hs)
            rw [List.getD_eq_getElem?_getD, List.getElem?_append_left (by simpa using (List.getElem?_eq_some_iff.1 hs).1), List.getElem?_map, hs]
            simp only [Option.map_some, Option.getD_some]
            by_cases hsa : s < (PV.fn (.yield l) [] [] :: cap).length
            · obtain ⟨u, h1, h2⟩ := hargs s _ (List.getElem?_eq_getElem hsa)
              refine ⟨u, ?_, ?_⟩
              · rw [Array.getElem?_append_left (by simp at hsa; omega)]; exact h1
              · rw [List.getD_eq_getElem?_getD, List.getElem?_eq_getElem hsa]; exact h2
            · refine ⟨undef, ?_, ?_⟩
              · rw [Array.getElem?_append_right (by simp at hsa; omega), Array.getElem?_replicate, if_pos (by simp at hsa; omega)]
              · rw [List.getD_eq_getElem?_getD, List.getElem?_eq_none (by omega)]; exact mk_undef
          have hfy : FyOk P B Z0 (Anch.it w B Z0 G0 h0 Ψ hstep hshut) none (varsOf fn c) (fnY P l (varsOf fn c).length Y hYm).fy := by
            rintro v args vars h1 K1 (hv | ⟨rfl, hv1, hv2, hv3⟩) G1 w1 u va r1 hpsi hu hva
            · exact fyI_ok hv r1 hpsi hu hva
            · right
              unfold D at hu; unfold VRep at hu
              obtain ⟨a1, a2, rfl, a3, a4⟩ := hu
              have e1 : a1 = #[] := Array.eq_empty_of_size_eq_zero (by simpa using a3.1)
              have e2 : a2 = #[] := Array.eq_empty_of_size_eq_zero (by simpa using a4.1)
              subst e1; subst e2
              obtain ⟨p0, g1, g2, g3, g4⟩ := hpsi
              have hp0 : p0 = none := gOf_inj (by rw [← g1]; exact hv1)
              subst hp0
              refine ⟨l, rfl, fun n => yieldAt_mono ?_ (hY hv3 r1 g3 hva n)⟩
              rintro e w2 ⟨p, h2, G2, rfl, k1, k2, k3, k4, k5, k6⟩
              refine ⟨.bool p.isNone, vars.set (varsOf fn c).length (gOf p), h2, .bool p.isNone, G2, rfl, k1, fun k hk => ?_, k2, k3, mk_bool, ⟨p, ?_, g2.trans k3, k4, by omega⟩, fun ds hd => k6 _ _ hd⟩
              · rw [List.getD_eq_getElem?_getD, List.getElem?_set_ne (by omega), List.getD_eq_getElem?_getD]
              · unfold gho; rw [List.getD_eq_getElem?_getD, List.getElem?_set_self (by omega)]; rfl
          refine code_soundF (FN := fnY P l (varsOf fn c).length Y hYm) hm (nodupN_spec hnd) rfl rfl hfy c (noR_of hcode (by rw [noX_strip]; exact hnx)) off k bo0 hcode (fun e vs h => (match e with | .exit _ => False | _ => True) ∧ ∃ p, vs.getD (varsOf fn c).length .undef = gOf p ∧ K p h) _ _ _ _ _ (by
            have := hx l (fun e vs h => (match e with | .exit _ => False | _ => True) ∧ ∃ p, vs.getD (varsOf fn c).length .undef = gOf p ∧ K p h) (fun p vs h e1 e2 => ⟨trivial, p, e1, e2⟩) (fun p vs h e1 e2 => ⟨trivial, p, e1, e2⟩)
            rw [Xw_eq] at this; exact this) hi fun e vars h a w' hi' he => ?_
          obtain ⟨he1, p, he2, he3⟩ := he
          have key : LeavesInM (fz none) 0 P fn a.tmps (fun e w' => ∃ u p h' G', e = .returned u ∧ K p h' ∧ HRep B Z0 G' h' w' ∧ Ext G0 h0 w G' h' w' ∧ Ψ p G' h' w') a.defers .returning w' := by
            obtain ⟨G, i1, i2, i3, ⟨Ds, d1, d2, d3⟩, p', g1, g2, g3, g4⟩ := hi'
            have hpp : p' = p := gOf_inj (by rw [← g1]; exact he2)
            subst hpp
            rw [d2]
            refine leaves_marks (m := w.heap.size) Ds w' d1 d3 fun w'' hs => ?_
            obtain ⟨j1, jx⟩ := i1.cells (w' := w'') (by rw [hs.size]; exact Nat.le_refl _) hs.cells
            have j2 : VarsR G h w'' (varsOf fn c) vars a := fun k s hk => by
              obtain ⟨v, h1, h2⟩ := i2 k s hk
              exact ⟨v, h1, h2.ext jx⟩
            obtain ⟨u, q0, _⟩ := res_val (P := P) (fn := fn) j1 j2 hres (l := []) rfl
            exact ⟨u, q0, u, p', h, G, rfl, he3, j1, g2.trans jx, hshut i1 g3 hs⟩
          cases e with
          | normal => exact key
          | ret => exact key
          | exit id => exact he1.elim
        · cases hc
      · cases hc
end
/-- a loop over a function, by the function's body -/
theorem rfor_mono {FN : FNs} {ps : List (Option Nat)} {a b : XCode} {vs : List PV} : YMono (loopY FN ps a b vs) := fun _ _ _ _ hk hh =>
  ⟨hh.1, Xw_mono (fun e vs h he => by
    cases e with
    | normal => exact Xw_mono (fun e vs h he => hk _ _ he) (show Xw FN b _ vs h from he)
    | exit id => exact he.elim
    | ret => exact he.elim) hh.2⟩
section
variable {P : Program} {Q : XPost} {vs : List PV} {h : Heap}
theorem range_of (hm : P.follows .mixedOrders = true) {f : FuncId} {off s0 : Nat} {X : XFn} (hc : compFnAt P f off = some { X with sites := s0, body := stripF X.body }) (hres0 : X.results = []) (hnx : noX X.body = true) {cap : List PV} {ps : List (Option Nat)} {a b : XCode} (hlen : cap.length + 1 ≤ X.ntmps) (ho : cap.all one = true)
    (hx : ∀ (l : Nat) (Q2 : XPost), (∀ p vs2 h, vs2.getD X.vars.length .undef = gOf p → Q (unp p) vs h → Q2 .ret vs2 h) → (∀ p vs2 h, vs2.getD X.vars.length .undef = gOf p → Q (unp p) vs h → Q2 .normal vs2 h) →
      Xw (fnY P l X.vars.length (loopY (fns P) ps a b vs) rfor_mono) X.body Q2 ((X.vars.map fun s => (.fn (.yield l) [] [] :: cap).getD s .undef) ++ [gOf none]) h) :
    Xi (fns P) (.fn (.func f) [] cap) ps a b Q vs h := it_introX hm hc hres0 hnx rfor_mono hlen ho hx
/-- the call of the loop's body -/
theorem yield_of {l n : Nat} {Y : YT} {hm : YMono Y} {args : List PV} {var : Option Nat} {xs : List XOper} {loc : List PV} {K : XSt → Prop} (h1 : vs.getD n .undef = gOf none) (h2 : vs.length = n + 1)
    (hk : Y args h fun p h' => h'.length = h.length ∧ Xr (fnY P l n Y hm) xs ⟨loc ++ [.bool p.isNone], setO (vs.set n (gOf p)) var (.bool p.isNone), h'⟩ K) : Xy (fnY P l n Y hm) (.fn (.yield l) [] []) args var xs ⟨loc, vs, h⟩ K := .inr ⟨rfl, h1, h2, hk⟩
end
end Go.Proofs.Ytalgbgeocpbadaa.Am
