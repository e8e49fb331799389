/-
  The machine run: what it gives for given arguments is what the function gives.
-/
import Derived.Test.YtalgbgeocpbadaaAmXs
namespace Go.Proofs.Ytalgbgeocpbadaa.Am
set_option linter.unusedSimpArgs false
set_option linter.unusedVariables false
set_option linter.unusedSectionVars false
open Go.RowKit
structure Callee where
  fn : FuncId → List Nat → List PV → Option PV
  fi : PV → List PV → Heap → Option (PV × List (Nat × Row))
def arunOps (call : Callee) : List XOper → XSt → Option XSt
  | [], st => some st
  | x :: xs, st => match gdO st.loc st.vars x.guard with
    | none => none
    | some false => arunOps call xs ⟨st.loc ++ [.tup []], setO st.vars x.var (.tup []), st.heap⟩
    | some true => match x.op with
      | .call f args ks _ => match call.fn f (ks.map (·.2)) (args.map fun a => fzV (lkOf st.heap x.hide) (evO st.loc st.vars a)) with
        | some r => if callOk st.heap.length ks ((args.map (evO st.loc st.vars)).any (hasOwn (lkOf st.heap x.hide))) r then
            arunOps call xs ⟨st.loc ++ [thV (ksF ks) (genF (lkOf st.heap x.hide)) r], setO st.vars x.var (thV (ksF ks) (genF (lkOf st.heap x.hide)) r), upd st.heap (thWs (ksF ks) (genF (lkOf st.heap x.hide)) 0 (rcells r))⟩ else none
        | none => none
      | .callv f args | .cally f args => match call.fi (evO st.loc st.vars f) (args.map (evO st.loc st.vars)) st.heap with
        | some (r, ws) => arunOps call xs ⟨st.loc ++ [r], setO st.vars x.var r, upd st.heap ws⟩
        | none => none
      | op => match aop (evO st.loc st.vars) (lkOf st.heap x.hide) op with
        | some (p, ws) => arunOps call xs ⟨st.loc ++ [p], setO st.vars x.var p, upd st.heap ws⟩
        | none => none
abbrev AOut := Option (XExit × List PV × Heap)
def aloop (body : List PV → Heap → AOut) : Nat → List PV → Heap → AOut
  | 0, _, _ => none
  | n + 1, vs, h => match body vs h with
    | some (.normal, vs, h) => aloop body n vs h
    | r => r
def arunC (call : Callee) (n : Nat) : XCode → List PV → Heap → AOut
  | .skip, vs, h => some (.normal, vs, h)
  | .reg xs, vs, h => if sitesIn h.length xs then (match arunOps call xs ⟨[], vs, h⟩ with
    | some st => some (.normal, st.vars, st.heap)
    | none => none) else none
  | .seq a b, vs, h => match arunC call n a vs h with
    | some (.normal, vs, h) => arunC call n b vs h
    | r => r
  | .cond c a b, vs, h => match evO [] vs c with
    | .bool true => arunC call n a vs h
    | .bool false => arunC call n b vs h
    | _ => none
  | .block id b, vs, h => match arunC call n b vs h with
    | some (.exit i, vs, h) => if i = id then some (.normal, vs, h) else some (.exit i, vs, h)
    | r => r
  | .loop b, vs, h => aloop (arunC call n b) n vs h
  | .loopS .., _, _ => none
  | .frz .., _, _ => none
  | .mat .., _, _ => none
  | .rfor .., _, _ => none
  | .exit id, vs, h => some (.exit id, vs, h)
  | .ret, vs, h => some (.ret, vs, h)
def aret (rs : List (Nat × Option (Bool × Nat))) (szs : List Nat) : AOut → Option PV
  | none | some (.exit _, _, _) => none
  | some (_, vs, h) => match resVs (lkOf h []) vs rs with
    | some l => if nodupN (outIds (oneV l)) && szsOk szs 0 (rcells (oneV l)) then some (rvV (lkOf h []) (oneV l)) else none
    | none => none
/-- rows that were never used -/
def unused : Heap → Nat
  | [] => 0
  | (g, o) :: h => match unused h, g, o with
    | 0, 0, .dead => 0
    | n, _, _ => n + 1
def allRows : Nat → Heap → List (Nat × Row)
  | _, [] => []
  | i, r :: h => (i, r) :: allRows (i + 1) h
def aretI (rs : List (Nat × Option (Bool × Nat))) (n : Nat) : AOut → Option (PV × List (Nat × Row))
  | none | some (.exit _, _, _) => none
  | some (_, vs, h) => match resVs (lkOf h []) vs rs with
    | some l => if (l.length == 1 || l.all flat1) && h.length == n then some (oneV l, allRows 0 h) else none
    | none => none
/-- d: how deep calls go; n: how many rounds a loop goes at most; ex: rows that calls may use which share memory -/
def arunF (P : Program) (n ex : Nat) : Nat → Callee
  | 0 => ⟨fun _ _ _ => none, fun _ _ _ => none⟩
  | d + 1 => ⟨fun f szs args => match compFn P f with
    | some X => if args.length ≤ X.ntmps then aret X.results szs (arunC (arunF P n ex d) n X.body (X.vars.map fun s => args.getD s .undef) (List.replicate (X.sites + ex) (0, .dead))) else none
    | none => none,
    fun v args h => match v with
    | .fn (.func f) first cap => match compFnAt P f (unused h) with
      | some X => if (first ++ args ++ cap).length ≤ X.ntmps && (first.all one && cap.all one) then aretI X.results h.length (arunC (arunF P n ex d) n X.body (X.vars.map fun s => (first ++ args ++ cap).getD s .undef) h) else none
      | none => none
    | _ => none⟩
section
variable {FN : FNs} {call : Callee}
theorem arunOps_sound (hy : ∀ v a vs h K, (∃ r ws, FN.fi v a h r ws ∧ K r vs (upd h ws)) → FN.fy v a vs h K) (hc : ∀ f s a r, call.fn f s a = some r → FN.fn f s a r) (hi : ∀ v a h r ws, call.fi v a h = some (r, ws) → FN.fi v a h r ws) {Q : XSt → Prop} : ∀ {xs : List XOper} {st st' : XSt}, arunOps call xs st = some st' → Q st' → xrun FN xs st Q
  | [], st, st', h, hq => by simp only [arunOps, Option.some.injEq] at h; subst h; exact hq
  | x :: xs, st, st', h, hq => by
    cases hg : gdO st.loc st.vars x.guard with
    | none => simp only [arunOps, hg] at h; cases h
    | some c =>
      cases c with
      | false =>
        simp only [arunOps, hg] at h
        simp only [xrun, hg]
        exact arunOps_sound hy hc hi h hq
      | true =>
        cases hx : x.op
        case call f args ks al =>
          simp only [arunOps, hg, hx] at h
          simp only [xrun, hg, hx]
          split at h
          · rename_i r hr
            split at h
            · rename_i hok
              exact ⟨r, hc _ _ _ _ hr, hok, arunOps_sound hy hc hi h hq⟩
            · cases h
          · cases h
        case callv f args =>
          simp only [arunOps, hg, hx] at h
          simp only [xrun, hg, hx]
          split at h
          · rename_i r ws hr
            exact ⟨r, ws, hi _ _ _ _ _ hr, arunOps_sound hy hc hi h hq⟩
          · cases h
        case cally f args =>
          simp only [arunOps, hg, hx] at h
          simp only [xrun, hg, hx]
          split at h
          · rename_i r ws hr
            exact hy _ _ _ _ _ ⟨r, ws, hi _ _ _ _ _ hr, upd_length _ _, arunOps_sound hy hc hi h hq⟩
          · cases h
        all_goals
          simp only [arunOps, hg, hx] at h
          simp only [xrun, hg, hx]
          split at h
          · rename_i p ws ha
            rw [ha]
            exact arunOps_sound hy hc hi h hq
          · cases h
theorem arunC_sound (hy : ∀ v a vs h K, (∃ r ws, FN.fi v a h r ws ∧ K r vs (upd h ws)) → FN.fy v a vs h K) (hc : ∀ f s a r, call.fn f s a = some r → FN.fn f s a r) (hi : ∀ v a h r ws, call.fi v a h = some (r, ws) → FN.fi v a h r ws) {n : Nat} : ∀ {c : XCode} {Q : XPost} {vs vs' : List PV} {h h' : Heap} {e : XExit}, arunC call n c vs h = some (e, vs', h') → Q e vs' h' → xwp FN c Q vs h := by
  intro c
  induction c with
  | skip => intro Q vs vs' h h' e hr hq; simp only [arunC, Option.some.injEq, Prod.mk.injEq] at hr; obtain ⟨rfl, rfl, rfl⟩ := hr; exact hq
  | reg xs =>
    intro Q vs vs' h h' e hr hq
    simp only [arunC] at hr
    split at hr
    · rename_i hs
      split at hr
      · rename_i st hst
        simp only [Option.some.injEq, Prod.mk.injEq] at hr
        obtain ⟨rfl, rfl, rfl⟩ := hr
        exact ⟨hs, arunOps_sound hy hc hi hst hq⟩
      · cases hr
    · cases hr
  | seq a b iha ihb =>
    intro Q vs vs' h h' e hr hq
    simp only [arunC] at hr
    split at hr
    · rename_i vs1 h1 ha
      exact iha ha (ihb hr hq)
    · rename_i hne
      refine iha hr ?_
      cases e with
      | normal => exact absurd hr (hne vs' h')
      | exit id => exact hq
      | ret => exact hq
  | cond cd a b iha ihb =>
    intro Q vs vs' h h' e hr hq
    simp only [arunC] at hr
    simp only [xwp]
    split at hr
    · rename_i hb; rw [hb]; exact iha hr hq
    · rename_i hb; rw [hb]; exact ihb hr hq
    · cases hr
  | block id b ih =>
    intro Q vs vs' h h' e hr hq
    simp only [arunC] at hr
    split at hr
    · rename_i i vs1 h1 hb
      refine ih hb ?_
      simp only [xin]
      split at hr
      · rename_i hi
        simp only [Option.some.injEq, Prod.mk.injEq] at hr
        obtain ⟨rfl, rfl, rfl⟩ := hr
        rw [if_pos hi]; exact hq
      · rename_i hi
        simp only [Option.some.injEq, Prod.mk.injEq] at hr
        obtain ⟨rfl, rfl, rfl⟩ := hr
        rw [if_neg hi]; exact hq
    · rename_i hne
      refine ih hr ?_
      cases e with
      | normal => exact hq
      | exit i => exact absurd hr (hne i vs' h')
      | ret => exact hq
  | loop b ih =>
    intro Q vs vs' h h' e hr hq
    simp only [arunC] at hr
    refine ⟨n, ?_⟩
    generalize hm : n = m at hr
    have hr' : aloop (arunC call n b) m vs h = some (e, vs', h') := by rw [← hm] at hr ⊢; exact hr
    clear hm hr
    induction m generalizing vs h with
    | zero => simp only [aloop] at hr'; cases hr'
    | succ m ihm =>
      simp only [aloop] at hr'
      simp only [xloop]
      split at hr'
      · rename_i vs1 h1 hb
        exact ih hb (ihm hr')
      · rename_i hne
        refine ih hr' ?_
        cases e with
        | normal => exact absurd hr' (hne vs' h')
        | exit i => exact hq
        | ret => exact hq
  | loopS lv c0 b ih => intro Q vs vs' h h' e hr hq; simp only [arunC] at hr; cases hr
  | frz l b ih => intro Q vs vs' h h' e hr hq; simp only [arunC] at hr; cases hr
  | rfor => intro Q vs vs' h h' e hr hq; simp only [arunC] at hr; cases hr
  | mat => intro Q vs vs' h h' e hr hq; simp only [arunC] at hr; cases hr
  | exit id => intro Q vs vs' h h' e hr hq; simp only [arunC, Option.some.injEq, Prod.mk.injEq] at hr; obtain ⟨rfl, rfl, rfl⟩ := hr; exact hq
  | ret => intro Q vs vs' h h' e hr hq; simp only [arunC, Option.some.injEq, Prod.mk.injEq] at hr; obtain ⟨rfl, rfl, rfl⟩ := hr; exact hq
theorem upd_all : ∀ {h h0 : Heap} {pre : Heap}, h0.length = h.length → upd (pre ++ h0) (allRows pre.length h) = pre ++ h
  | [], [], pre, _ => by simp [allRows, upd]
  | [], _ :: _, _, h => by simp at h
  | _ :: _, [], _, h => by simp at h
  | r :: h, r0 :: h0, pre, hl => by
    show upd ((pre ++ r0 :: h0).set pre.length r) (allRows (pre.length + 1) h) = _
    have e : (pre ++ r0 :: h0).set pre.length r = (pre ++ [r]) ++ h0 := by
      rw [List.set_append_right _ _ (Nat.le_refl _)]; simp
    rw [e]
    have := upd_all (h := h) (h0 := h0) (pre := pre ++ [r]) (by simpa using hl)
    rw [List.length_append] at this
    simpa using this
theorem fn_introN {P : Program} (hm : P.follows .mixedOrders = true) {f : FuncId} {X : XFn} (hc : compFn P f = some X) {ex : Nat} {szs : List Nat} {args : List PV} {r : PV} (hlen : args.length ≤ X.ntmps)
    (hx : xwp (fns P) X.body (xret X.results szs r) (X.vars.map fun s => args.getD s .undef) (List.replicate (X.sites + ex) (0, .dead))) : Fn P f szs args r := by
  unfold compFn at hc
  dsimp only at hc
  split at hc
  · cases hc
  · rename_i fn hfn
    split at hc
    · cases hc
    · rename_i c hbody
      split at hc
      · rename_i x k rs hcode hres
        split at hc
        · rename_i hcond
          obtain ⟨hnm, hnd, hall, hpar⟩ := hcond
          cases hc
          refine ⟨by unfold callable; rw [hfn]; simpa [hbody] using hnm, fun w Z vargs hz hargs => ?_⟩
          refine (callsIn_fz (ρ := none) (n := 0)).1 (callsIn_of_wp_marks hfn hbody trivial ?_)
          refine code_sound hm (nodupN_spec hnd) c 0 k x hcode _ _ _ _ _ _ hx (enter_fn hall hz hargs hlen) fun e vars h a w' hi' he => ?_
          obtain ⟨he1, l, he2, he3, he4, rfl⟩ := he
          cases e with
          | normal => exact leave_fn hres hi' he2 he3 he4
          | ret => exact leave_fn hres hi' he2 he3 he4
          | exit id => exact he1.elim
        · cases hc
      · cases hc
theorem arunF_both {P : Program} (hm : P.follows .mixedOrders = true) {n ex : Nat} : ∀ (d : Nat), (∀ (f : FuncId) (szs : List Nat) (args : List PV) (r : PV), (arunF P n ex d).fn f szs args = some r → Fn P f szs args r) ∧
    (∀ (v : PV) (args : List PV) (h : Heap) (r : PV) (ws : List (Nat × Row)), (arunF P n ex d).fi v args h = some (r, ws) → FI P v args h r ws)
  | 0 => ⟨fun f szs args r h => (by simp [arunF] at h), fun v args h r ws e => (by simp [arunF] at e)⟩
  | d + 1 => by
    obtain ⟨ih1, ih2⟩ := arunF_both hm (n := n) (ex := ex) d
    refine ⟨fun f szs args r h => ?_, fun v args h r ws e => ?_⟩
    · simp only [arunF] at h
      split at h
      · rename_i X hX
        split at h
        · rename_i hl
          refine fn_introN hm hX (ex := ex) hl ?_
          cases ho : arunC (arunF P n ex d) n X.body (X.vars.map fun s => args.getD s .undef) (List.replicate (X.sites + ex) (0, .dead)) with
          | none => rw [ho] at h; simp only [aret] at h; cases h
          | some o =>
            obtain ⟨e, vs, hp⟩ := o
            rw [ho] at h
            refine arunC_sound (FN := fns P) (call := arunF P n ex d) (n := n) (fun _ _ _ _ _ h => h) ih1 ih2 (e := e) (vs' := vs) (h' := hp) ho ?_
            cases e with
            | exit id => simp only [aret] at h; cases h
            | normal | ret =>
              simp only [aret] at h
              split at h
              · rename_i l hl'
                split at h
                · rename_i hok
                  simp only [Bool.and_eq_true] at hok
                  simp only [Option.some.injEq] at h
                  exact ⟨trivial, l, hl', hok.1, hok.2, h⟩
                · cases h
              · cases h
        · cases h
      · cases h
    · simp only [arunF] at e
      split at e
      · rename_i f first cap
        split at e
        · rename_i X hX
          split at e
          · rename_i hl
            rw [Bool.and_eq_true, decide_eq_true_eq] at hl
            refine fn_introI hm hX hl.1 hl.2 ?_
            cases ho : arunC (arunF P n ex d) n X.body (X.vars.map fun s => (first ++ args ++ cap).getD s .undef) h with
            | none => rw [ho] at e; simp only [aretI] at e; cases e
            | some o =>
              obtain ⟨ex', vs, hp⟩ := o
              rw [ho] at e
              refine arunC_sound (FN := fns P) (call := arunF P n ex d) (n := n) (fun _ _ _ _ _ h => h) ih1 ih2 (e := ex') (vs' := vs) (h' := hp) ho ?_
              cases ex' with
              | exit id => simp only [aretI] at e; cases e
              | normal | ret =>
                simp only [aretI] at e
                split at e
                · rename_i l hl'
                  split at e
                  · rename_i hok
                    simp only [Bool.and_eq_true, beq_iff_eq] at hok
                    simp only [Option.some.injEq, Prod.mk.injEq] at e
                    obtain ⟨e1, e2⟩ := e
                    refine ⟨trivial, l, hl', hok.1, e1, ?_⟩
                    rw [← e2]
                    have := upd_all (h := hp) (h0 := h) (pre := []) hok.2.symm
                    simpa using this.symm
                  · cases e
                · cases e
          · cases e
        · cases e
      · cases e
theorem arunF_sound {P : Program} (hm : P.follows .mixedOrders = true) {n ex : Nat} {d : Nat} {f : FuncId} {szs : List Nat} {args : List PV} {r : PV} (h : (arunF P n ex d).fn f szs args = some r) : Fn P f szs args r :=
  (arunF_both hm d).1 f szs args r h
end
end Go.Proofs.Ytalgbgeocpbadaa.Am
