/-
  The machine run: what it gives for given arguments is what the function gives.
-/
import Derived.Test.YtnlapjkfbodbkaaAmXs
namespace Go.Proofs.Ytnlapjkfbodbkaa.Am
set_option linter.unusedSimpArgs false
set_option linter.unusedVariables false
set_option linter.unusedSectionVars false
open Go.RowKit
abbrev Callee := FuncId → List Nat → List PV → Option PV
def arunOps (call : Callee) : List XOper → XSt → Option XSt
  | [], st => some st
  | x :: xs, st => match gdO st.loc st.vars x.guard with
    | none => none
    | some false => arunOps call xs ⟨st.loc ++ [.tup []], setO st.vars x.var (.tup []), st.heap⟩
    | some true => match x.op with
      | .call f args ks _ => match call f (ks.map (·.2)) (args.map fun a => fzV (lkOf st.heap x.hide) (evO st.loc st.vars a)) with
        | some r => if callOk st.heap.length ks ((args.map (evO st.loc st.vars)).any (hasOwn (lkOf st.heap x.hide))) r then
            arunOps call xs ⟨st.loc ++ [thV (ksF ks) (genF (lkOf st.heap x.hide)) r], setO st.vars x.var (thV (ksF ks) (genF (lkOf st.heap x.hide)) r), upd st.heap (thWs (ksF ks) (genF (lkOf st.heap x.hide)) 0 (rcells r))⟩ else none
        | none => none
      | op => match aop (evO st.loc st.vars) (lkOf st.heap x.hide) op with
        | some (p, ws) => arunOps call xs ⟨st.loc ++ [p], setO st.vars x.var p, upd st.heap ws⟩
        | none => none
abbrev AOut := Option (XExit × List PV × Heap)
def aloop (body : List PV → Heap → AOut) : Nat → List PV → Heap → AOut
  | 0, _, _ => none
  | n + 1, vs, h => match body vs h with
    | some (.normal, vs, h) => aloop body n vs h
    | r => r
def arunC (call : Callee) (n : Nat) : XCode → List PV → Heap → AOut
  | .skip, vs, h => some (.normal, vs, h)
  | .reg xs, vs, h => if sitesIn h.length xs then (match arunOps call xs ⟨[], vs, h⟩ with
    | some st => some (.normal, st.vars, st.heap)
    | none => none) else none
  | .seq a b, vs, h => match arunC call n a vs h with
    | some (.normal, vs, h) => arunC call n b vs h
    | r => r
  | .cond c a b, vs, h => match evO [] vs c with
    | .bool true => arunC call n a vs h
    | .bool false => arunC call n b vs h
    | _ => none
  | .block id b, vs, h => match arunC call n b vs h with
    | some (.exit i, vs, h) => if i = id then some (.normal, vs, h) else some (.exit i, vs, h)
    | r => r
  | .loop b, vs, h => aloop (arunC call n b) n vs h
  | .loopS .., _, _ => none
  | .frz .., _, _ => none
  | .exit id, vs, h => some (.exit id, vs, h)
  | .ret, vs, h => some (.ret, vs, h)
def aret (rs : List (Nat × Option (Bool × Nat))) (szs : List Nat) : AOut → Option PV
  | none | some (.exit _, _, _) => none
  | some (_, vs, h) => match resVs (lkOf h []) vs rs with
    | some l => if nodupN (outIds (oneV l)) && szsOk szs 0 (rcells (oneV l)) then some (rvV (lkOf h []) (oneV l)) else none
    | none => none
/-- d: how deep calls go; n: how many rounds a loop goes at most -/
def arunF (P : Program) (n : Nat) : Nat → Callee
  | 0, _, _, _ => none
  | d + 1, f, szs, args => match compFn P f with
    | some X => if args.length ≤ X.ntmps then aret X.results szs (arunC (arunF P n d) n X.body (X.vars.map fun s => args.getD s .undef) (List.replicate X.sites (0, .dead))) else none
    | none => none
section
variable {FN : FuncId → List Nat → List PV → PV → Prop} {call : Callee}
theorem arunOps_sound (hc : ∀ f s a r, call f s a = some r → FN f s a r) {Q : XSt → Prop} : ∀ {xs : List XOper} {st st' : XSt}, arunOps call xs st = some st' → Q st' → xrun FN xs st Q
  | [], st, st', h, hq => by simp only [arunOps, Option.some.injEq] at h; subst h; exact hq
  | x :: xs, st, st', h, hq => by
    cases hg : gdO st.loc st.vars x.guard with
    | none => simp only [arunOps, hg] at h; cases h
    | some c =>
      cases c with
      | false =>
        simp only [arunOps, hg] at h
        simp only [xrun, hg]
        exact arunOps_sound hc h hq
      | true =>
        cases hx : x.op
        case call f args ks al =>
          simp only [arunOps, hg, hx] at h
          simp only [xrun, hg, hx]
          split at h
          · rename_i r hr
            split at h
            · rename_i hok
              exact ⟨r, hc _ _ _ _ hr, hok, arunOps_sound hc h hq⟩
            · cases h
          · cases h
        all_goals
          simp only [arunOps, hg, hx] at h
          simp only [xrun, hg, hx]
          split at h
          · rename_i p ws ha
            rw [ha]
            exact arunOps_sound hc h hq
          · cases h
theorem arunC_sound (hc : ∀ f s a r, call f s a = some r → FN f s a r) {n : Nat} : ∀ {c : XCode} {Q : XPost} {vs vs' : List PV} {h h' : Heap} {e : XExit}, arunC call n c vs h = some (e, vs', h') → Q e vs' h' → xwp FN c Q vs h := by
  intro c
  induction c with
  | skip => intro Q vs vs' h h' e hr hq; simp only [arunC, Option.some.injEq, Prod.mk.injEq] at hr; obtain ⟨rfl, rfl, rfl⟩ := hr; exact hq
  | reg xs =>
    intro Q vs vs' h h' e hr hq
    simp only [arunC] at hr
    split at hr
    · rename_i hs
      split at hr
      · rename_i st hst
        simp only [Option.some.injEq, Prod.mk.injEq] at hr
        obtain ⟨rfl, rfl, rfl⟩ := hr
        exact ⟨hs, arunOps_sound hc hst hq⟩
      · cases hr
    · cases hr
  | seq a b iha ihb =>
    intro Q vs vs' h h' e hr hq
    simp only [arunC] at hr
    split at hr
    · rename_i vs1 h1 ha
      exact iha ha (ihb hr hq)
    · rename_i hne
      refine iha hr ?_
      cases e with
      | normal => exact absurd hr (hne vs' h')
      | exit id => exact hq
      | ret => exact hq
  | cond cd a b iha ihb =>
    intro Q vs vs' h h' e hr hq
    simp only [arunC] at hr
    simp only [xwp]
    split at hr
    · rename_i hb; rw [hb]; exact iha hr hq
    · rename_i hb; rw [hb]; exact ihb hr hq
    · cases hr
  | block id b ih =>
    intro Q vs vs' h h' e hr hq
    simp only [arunC] at hr
    split at hr
    · rename_i i vs1 h1 hb
      refine ih hb ?_
      simp only [xin]
      split at hr
      · rename_i hi
        simp only [Option.some.injEq, Prod.mk.injEq] at hr
        obtain ⟨rfl, rfl, rfl⟩ := hr
        rw [if_pos hi]; exact hq
      · rename_i hi
        simp only [Option.some.injEq, Prod.mk.injEq] at hr
        obtain ⟨rfl, rfl, rfl⟩ := hr
        rw [if_neg hi]; exact hq
    · rename_i hne
      refine ih hr ?_
      cases e with
      | normal => exact hq
      | exit i => exact absurd hr (hne i vs' h')
      | ret => exact hq
  | loop b ih =>
    intro Q vs vs' h h' e hr hq
    simp only [arunC] at hr
    refine ⟨n, ?_⟩
    generalize hm : n = m at hr
    have hr' : aloop (arunC call n b) m vs h = some (e, vs', h') := by rw [← hm] at hr ⊢; exact hr
    clear hm hr
    induction m generalizing vs h with
    | zero => simp only [aloop] at hr'; cases hr'
    | succ m ihm =>
      simp only [aloop] at hr'
      simp only [xloop]
      split at hr'
      · rename_i vs1 h1 hb
        exact ih hb (ihm hr')
      · rename_i hne
        refine ih hr' ?_
        cases e with
        | normal => exact absurd hr' (hne vs' h')
        | exit i => exact hq
        | ret => exact hq
  | loopS lv c0 b ih => intro Q vs vs' h h' e hr hq; simp only [arunC] at hr; cases hr
  | frz l b ih => intro Q vs vs' h h' e hr hq; simp only [arunC] at hr; cases hr
  | exit id => intro Q vs vs' h h' e hr hq; simp only [arunC, Option.some.injEq, Prod.mk.injEq] at hr; obtain ⟨rfl, rfl, rfl⟩ := hr; exact hq
  | ret => intro Q vs vs' h h' e hr hq; simp only [arunC, Option.some.injEq, Prod.mk.injEq] at hr; obtain ⟨rfl, rfl, rfl⟩ := hr; exact hq
theorem arunF_sound {P : Program} (hm : P.follows .mixedOrders = true) {n : Nat} : ∀ {d : Nat} {f : FuncId} {szs : List Nat} {args : List PV} {r : PV}, arunF P n d f szs args = some r → Fn P f szs args r
  | 0, _, _, _, _, h => by simp only [arunF] at h; cases h
  | d + 1, f, szs, args, r, h => by
    simp only [arunF] at h
    split at h
    · rename_i X hX
      split at h
      · rename_i hl
        refine fn_intro hm hX hl ?_
        cases ho : arunC (arunF P n d) n X.body (X.vars.map fun s => args.getD s .undef) (List.replicate X.sites (0, .dead)) with
        | none => rw [ho] at h; simp only [aret] at h; cases h
        | some o =>
          obtain ⟨e, vs, hp⟩ := o
          rw [ho] at h
          refine arunC_sound (call := arunF P n d) (n := n) (fun f s a r hr => arunF_sound hm (n := n) (d := d) hr) (e := e) (vs' := vs) (h' := hp) ho ?_
          cases e with
          | exit id => simp only [aret] at h; cases h
          | normal | ret =>
            simp only [aret] at h
            split at h
            · rename_i l hl'
              split at h
              · rename_i hok
                simp only [Bool.and_eq_true] at hok
                simp only [Option.some.injEq] at h
                exact ⟨trivial, l, hl', hok.1, hok.2, h⟩
              · cases h
            · cases h
      · cases h
    · cases h
end
end Go.Proofs.Ytnlapjkfbodbkaa.Am
