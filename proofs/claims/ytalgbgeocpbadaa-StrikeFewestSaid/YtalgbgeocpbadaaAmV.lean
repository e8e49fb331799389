/-
  Code.
-/
import Derived.Test.YtalgbgeocpbadaaAmU
import Derived.Scope
import Derived.LoopN
namespace Go.Proofs.Ytalgbgeocpbadaa.Am
set_option linter.unusedSimpArgs false
set_option linter.unusedVariables false
set_option linter.unusedSectionVars false
open Go.RowKit
theorem wpIn_scope_straight {P : Program} {F : Fence} {n : Nat} {Q : Exit → Act → World → Prop} {a : Act} {w : World} {c : Code} (h : c.wpIn F n P (Exit.noGoto Q) a w) : (Code.scope c).wpIn F n P Q a w := by
  intro b k cs hro hb hr
  have h0 : (lone (b.atR a (.code (.scope c) :: k)) cs w).fenced P F := fenced_calm hb hr rfl
  have hs : step P (lone (b.atR a (.code (.scope c) :: k)) cs w) = .next (lone (b.atR a (.code c :: .inScope c :: k)) cs w) :=
    step_lone_go (by simp [stepG, stepG.exec, Frame.atR])
  have hs2 : ∀ a w, step P (lone (b.atR a (.inScope c :: k)) cs w) = .next (lone (b.atR a k) cs w) := fun a w =>
    step_lone_go (by simp [stepG, stepG.exec, Frame.atR])
  obtain ⟨e, a₁, w₁, hq, harr⟩ := h b (.inScope c :: k) cs hro hb hr
  cases e with
  | normal => exact ⟨.normal, a₁, w₁, hq, .head h0 hs (StepsIn.trans harr (.one (fenced_calm hb hr rfl) (hs2 _ _)))⟩
  | exit id => exact ⟨.exit id, a₁, w₁, hq, fun k' hk => .head h0 hs (harr.1 k' (by simp [exitTo, hk])), fun hr' hk => let ⟨k₁, h1, h2⟩ := harr.2 hr' (by simp [exitTo, hk]); ⟨k₁, h1, .head h0 hs h2⟩⟩
  | goto l => exact hq.elim
  | ret => exact ⟨_, a₁, w₁, hq, .of_steps (.one h0 hs) harr⟩
  | panic ch => exact ⟨_, a₁, w₁, hq, .of_steps (.one h0 hs) harr⟩
  | outgrown => exact ⟨_, a₁, w₁, hq, .of_steps (.one h0 hs) harr⟩
def exOf : XExit → Exit
  | .normal => .normal
  | .exit id => .exit id
  | .ret => .ret
section
variable {P : Program} {B : Nat} {Z0 : Nat → Prop} {W0 : Anch B} {ρ : Option Nat} {nn : Nat} {vs : List Nat} {N : Nat} {vars : List PV} {h : Heap} {a : Act} {w : World}
def PostR (B : Nat) (Z0 : Nat → Prop) (W0 : Anch B) (vs : List Nat) (N : Nat) (Q' : XPost) (Q : Exit → Act → World → Prop) : Prop := ∀ e vars h a w, SInv B Z0 W0 vs N vars h a w → Q' e vars h → Q (exOf e) a w
theorem plain_sound {FN : FNs} (hfn : FN.fn = Fn P) (hfi : FN.fi = FI P) (hfy : FyOk P B Z0 W0 ρ vs FN.fy) (hn : vs.Nodup) {id k k' : Nat} {ops : List Oper} {xs : List XOper} (hc : compReg P vs N k ops false = some (xs, k')) (hsi : sitesIn h.length xs = true) {Q' : XSt → Prop} (hx : xrun FN xs ⟨[], vars, h⟩ Q')
    {Q : Exit → Act → World → Prop} (hQ : ∀ st a w, SInv B Z0 W0 vs N st.vars st.heap a w → Q' st → Q .normal a w) (hi : SInv B Z0 W0 vs N vars h a w) : (Code.region id ops.toArray false).wpIn (fz ρ) nn P Q a w := by
  unfold compReg at hc
  split at hc
  · cases hc
  · rename_i xs0 k1 hc0
    simp only [Bool.false_eq_true, if_false, Option.some.injEq, Prod.mk.injEq] at hc
    obtain ⟨rfl, rfl⟩ := hc
    obtain ⟨tail, h1, h2⟩ := run_ops (B := B) (Z0 := Z0) (W0 := W0) hfn hfi hfy hn (Q := Q) (Q' := Q') (fun i st a w hinv hq => by
      obtain ⟨G, i1, i2, _, _, i5, i6, i7⟩ := hinv
      exact hQ st a w ⟨G, i1, i2, i5, i6, i7⟩ hq) ops [] k k1 xs0 rfl hc0
    simp only [List.nil_append] at h1
    subst h1
    obtain ⟨G, i1, i2, i3, i4, i5⟩ := hi
    have := h2 ⟨[], vars, h⟩ a w ⟨G, i1, i2, fun t j hj => by simp [lastW] at hj, rfl, i3, i4, i5⟩ hsi hx
    exact wpIn_region (by simpa [List.range_eq_range'] using this)
theorem cond_rep {c : Operand} {d : Opd} (hd : rdOp vs [] 0 c = some d) {G : Gh} (hv : VarsR G h w vs vars a) : VRep G h w D (a.eval c) (evO [] vars d) :=
  rd_rep hv (ops := []) (i := 0) (loc := []) (fun t j hj => by simp [lastW] at hj) c d hd
/-- of a region that calls no value that may be a loop's body, it does not matter what such a call gives -/
theorem xrun_noy {FN : FNs} (hfn : FN.fn = Fn P) (hfi : FN.fi = FI P) {Q : XSt → Prop} : ∀ {xs : List XOper} {st : XSt}, xs.any (fun x => isCally x.op) = false → xrun FN xs st Q → xrun (fns P) xs st Q
  | [], st, _, h => h
  | x :: xs, st, hny, h => by
    simp only [List.any_cons, Bool.or_eq_false_iff] at hny
    cases hg : gdO st.loc st.vars x.guard with
    | none => simp only [xrun, hg] at h
    | some c =>
      cases c with
      | false => simp only [xrun, hg] at h ⊢; exact xrun_noy hfn hfi hny.2 h
      | true =>
        cases hx : x.op
        case call f args ks al =>
          simp only [xrun, hg, hx] at h ⊢
          obtain ⟨r, h1, h2, h3⟩ := h
          exact ⟨r, hfn ▸ h1, h2, xrun_noy hfn hfi hny.2 h3⟩
        case callv f args =>
          simp only [xrun, hg, hx] at h ⊢
          obtain ⟨r, ws, h1, h2⟩ := h
          exact ⟨r, ws, hfi ▸ h1, xrun_noy hfn hfi hny.2 h2⟩
        case cally f args => rw [hx] at hny; cases hny.1
        all_goals
          simp only [xrun, hg, hx] at h ⊢
          split at h
          · exact xrun_noy hfn hfi hny.2 h
          · exact h.elim
/-- CODE -/
theorem code_soundR (hm : P.follows .mixedOrders = true) (hn : vs.Nodup) {FN : FNs} (hfn : FN.fn = Fn P) (hfi : FN.fi = FI P) (hfy : FyOk P B Z0 W0 ρ vs FN.fy) : ∀ (c : Code), noR c = true → ∀ (k k' : Nat) (x : XCode), compCode P vs N k c = some (x, k') → ∀ (Q' : XPost) (Q : Exit → Act → World → Prop) (vars : List PV) (h : Heap) (a : Act) (w : World),
    xwp FN x Q' vars h → SInv B Z0 W0 vs N vars h a w → PostR B Z0 W0 vs N Q' Q → c.wpIn (fz ρ) nn P Q a w := by
  intro c
  induction c with
  | skip =>
    intro hr0 k k' x hc Q' Q vars h a w hx hi hq
    simp only [compCode, Option.some.injEq, Prod.mk.injEq] at hc
    obtain ⟨rfl, rfl⟩ := hc
    exact wpIn_skip (hq .normal _ _ _ _ hi hx)
  | label l =>
    intro hr0 k k' x hc Q' Q vars h a w hx hi hq
    simp only [compCode, Option.some.injEq, Prod.mk.injEq] at hc
    obtain ⟨rfl, rfl⟩ := hc
    exact wpIn_label (hq .normal _ _ _ _ hi hx)
  | exit id =>
    intro hr0 k k' x hc Q' Q vars h a w hx hi hq
    simp only [compCode, Option.some.injEq, Prod.mk.injEq] at hc
    obtain ⟨rfl, rfl⟩ := hc
    exact wpIn_exit (hq (.exit id) _ _ _ _ hi hx)
  | ret =>
    intro hr0 k k' x hc Q' Q vars h a w hx hi hq
    simp only [compCode, Option.some.injEq, Prod.mk.injEq] at hc
    obtain ⟨rfl, rfl⟩ := hc
    exact wpIn_ret (hq .ret _ _ _ _ hi hx)
  | region id ops d =>
    intro hr0 k k' x hc Q' Q vars h a w hx hi hq
    simp only [compCode] at hc
    split at hc
    · rename_i xs k1 hc0
      cases hc
      obtain ⟨hsi, hx⟩ := hx
      rw [show ops = ops.toList.toArray by simp]
      cases d with
      | false => exact plain_sound hfn hfi hfy hn hc0 hsi hx (fun st a w hi hq' => hq .normal _ _ _ _ hi hq') hi
      | true => exact drawn_sound hm hn hc0 hsi (xrun_noy hfn hfi (drawn_of hc0).cy hx) (fun st a w hi hq' => hq .normal _ _ _ _ hi hq') hi
    · cases hc
  | seq c1 c2 ih1 ih2 =>
    intro hr0 k k' x hc Q' Q vars h a w hx hi hq
    simp only [compCode] at hc
    split at hc
    · rename_i x1 k1 h1
      split at hc
      · rename_i x2 k2 h2
        cases hc
        simp only [noR, Bool.and_eq_true] at hr0
        refine wpIn_seq (ih1 hr0.1 _ _ _ h1 _ _ _ _ _ _ hx hi fun e vars h a w hi he => ?_)
        cases e with
        | normal => exact ih2 hr0.2 _ _ _ h2 _ _ _ _ _ _ he hi hq
        | exit id => exact hq (.exit id) _ _ _ _ hi he
        | ret => exact hq .ret _ _ _ _ hi he
      · cases hc
    · cases hc
  | cond cd c1 c2 ih1 ih2 =>
    intro hr0 k k' x hc Q' Q vars h a w hx hi hq
    simp only [compCode] at hc
    split at hc
    · rename_i x1 k1 h1
      split at hc
      · rename_i x2 k2 h2
        split at hc
        · rename_i dd hdd
          cases hc
          simp only [noR, Bool.and_eq_true] at hr0
          obtain ⟨G, i1, i2, i3⟩ := id hi
          have hr := cond_rep hdd i2
          simp only [xwp] at hx
          split at hx
          · rename_i he
            rw [he] at hr
            exact wpIn_cond_true (rep_bool hr) (ih1 hr0.1 _ _ _ h1 _ _ _ _ _ _ hx hi hq)
          · rename_i he
            rw [he] at hr
            exact wpIn_cond_false (rep_bool hr) (ih2 hr0.2 _ _ _ h2 _ _ _ _ _ _ hx hi hq)
          · exact hx.elim
        · cases hc
      · cases hc
    · cases hc
  | block id c ih =>
    intro hr0 k k' x hc Q' Q vars h a w hx hi hq
    simp only [compCode] at hc
    split at hc
    · rename_i x1 k1 h1
      cases hc
      refine wpIn_block (ih hr0 _ _ _ h1 _ _ _ _ _ _ hx hi fun e vars h a w hi he => ?_)
      cases e with
      | normal => exact hq .normal _ _ _ _ hi he
      | exit i =>
        simp only [xin] at he
        show Exit.inBlock id Q (.exit i) a w
        simp only [Exit.inBlock]
        split at he
        · rename_i e; rw [if_pos e]; exact hq .normal _ _ _ _ hi he
        · rename_i e; rw [if_neg e]; exact hq (.exit i) _ _ _ _ hi he
      | ret => exact hq .ret _ _ _ _ hi he
    · cases hc
  | loop c ih =>
    intro hr0 k k' x hc Q' Q vars h a w hx hi hq
    simp only [compCode] at hc
    split at hc
    · rename_i x1 k1 h1
      cases hc
      obtain ⟨n, hx⟩ := hx
      refine wpIn_loop_rounds n ?_
      induction n generalizing vars h a w with
      | zero => exact hx.elim
      | succ n ihn =>
        refine ih hr0 _ _ _ h1 _ _ _ _ _ _ hx hi fun e vars h a w hi he => ?_
        cases e with
        | normal => exact ihn _ _ _ _ hi he
        | exit id => exact hq (.exit id) _ _ _ _ hi he
        | ret => exact hq .ret _ _ _ _ hi he
    · cases hc
  | scope c ih =>
    intro hr0 k k' x hc Q' Q vars h a w hx hi hq
    simp only [compCode] at hc
    refine wpIn_scope_straight (ih hr0 _ _ _ hc _ _ _ _ _ _ hx hi fun e vars h a w hi he => ?_)
    cases e with
    | normal => exact hq .normal _ _ _ _ hi he
    | exit id => exact hq (.exit id) _ _ _ _ hi he
    | ret => exact hq .ret _ _ _ _ hi he
  | rangeFunc => intro hr0; simp [noR] at hr0
  | _ =>
    intro hr0 k k' x hc
    simp only [compCode] at hc
    cases hc
end
end Go.Proofs.Ytalgbgeocpbadaa.Am
