/-
  A run ends in one state; a function of which only a property is wanted.
-/
import Derived.Test.YtnlapjkfbodbkaaAmZa
namespace Go.Proofs.Ytnlapjkfbodbkaa.Am
set_option linter.unusedSimpArgs false
set_option linter.unusedVariables false
set_option linter.unusedSectionVars false
section
variable {FN : FNs}
theorem xrun_one : ∀ {xs : List XOper} {st : XSt} {Q : XSt → Prop}, xrun FN xs st Q → ∃ st', xrun FN xs st (· = st') ∧ Q st'
  | [], st, Q, h => ⟨st, rfl, h⟩
  | x :: xs, st, Q, h => by
    cases hg : gdO st.loc st.vars x.guard with
    | none => simp only [xrun, hg] at h
    | some c =>
      cases c with
      | false => simp only [xrun, hg] at h ⊢; exact xrun_one h
      | true =>
        cases hx : x.op
        case call f args ks al =>
          simp only [xrun, hg, hx] at h ⊢
          obtain ⟨r, h1, h2, h3⟩ := h
          obtain ⟨st', h4, h5⟩ := xrun_one h3
          exact ⟨st', ⟨r, h1, h2, h4⟩, h5⟩
        all_goals
          simp only [xrun, hg, hx] at h ⊢
          split at h
          · exact xrun_one h
          · exact h.elim
abbrev At (e : XExit) (vs : List PV) (h : Heap) : XPost := fun e' vs' h' => e' = e ∧ vs' = vs ∧ h' = h
theorem xloop_one {body : XPost → List PV → Heap → Prop} (hm : ∀ {Q Q' : XPost}, (∀ e vs h, Q e vs h → Q' e vs h) → ∀ {vs h}, body Q vs h → body Q' vs h) (hb : ∀ {Q : XPost} {vs h}, body Q vs h → ∃ e vs' h', body (At e vs' h') vs h ∧ Q e vs' h') : ∀ {n : Nat} {Q : XPost} {vs : List PV} {h : Heap}, xloop body Q n vs h → ∃ e vs' h', xloop body (At e vs' h') n vs h ∧ Q e vs' h'
  | 0, _, _, _, hh => hh.elim
  | n + 1, Q, vs, h, hh => by
    obtain ⟨e, vs', h', h1, h2⟩ := hb (show body (xthen (xloop body Q n) Q) vs h from hh)
    cases e with
    | normal =>
      obtain ⟨e2, vs2, hp2, h3, h4⟩ := xloop_one hm hb (show xloop body Q n vs' h' from h2)
      refine ⟨e2, vs2, hp2, hm (fun e v p hx => ?_) h1, h4⟩
      obtain ⟨rfl, rfl, rfl⟩ := hx
      exact h3
    | exit id => exact ⟨.exit id, vs', h', hm (fun e v p hx => by obtain ⟨rfl, rfl, rfl⟩ := hx; exact ⟨rfl, rfl, rfl⟩) h1, h2⟩
    | ret => exact ⟨.ret, vs', h', hm (fun e v p hx => by obtain ⟨rfl, rfl, rfl⟩ := hx; exact ⟨rfl, rfl, rfl⟩) h1, h2⟩
theorem xwp_one : ∀ {c : XCode} {Q : XPost} {vs : List PV} {h : Heap}, xwp FN c Q vs h → ∃ e vs' h', xwp FN c (At e vs' h') vs h ∧ Q e vs' h' := by
  intro c
  induction c with
  | skip => intro Q vs h hh; exact ⟨.normal, vs, h, ⟨rfl, rfl, rfl⟩, hh⟩
  | reg xs =>
    intro Q vs h hh
    obtain ⟨st', h1, h2⟩ := xrun_one hh.2
    exact ⟨.normal, st'.vars, st'.heap, ⟨hh.1, xrun_mono (fun st e => by subst e; exact ⟨rfl, rfl, rfl⟩) h1⟩, h2⟩
  | seq a b iha ihb =>
    intro Q vs h hh
    obtain ⟨e, vs', h', h1, h2⟩ := iha (show xwp FN a (xthen (xwp FN b Q) Q) vs h from hh)
    have up : ∀ e2 v2 p2, xthen (xwp FN b (At e2 v2 p2)) (At e2 v2 p2) e vs' h' → xwp FN (.seq a b) (At e2 v2 p2) vs h := fun e2 v2 p2 hq =>
      show xwp FN a (xthen (xwp FN b (At e2 v2 p2)) (At e2 v2 p2)) vs h from xwp_mono (fun e v p hx => by obtain ⟨rfl, rfl, rfl⟩ := hx; exact hq) h1
    cases e with
    | normal =>
      obtain ⟨e2, vs2, hp2, h3, h4⟩ := ihb (show xwp FN b Q vs' h' from h2)
      exact ⟨e2, vs2, hp2, up _ _ _ h3, h4⟩
    | exit id => exact ⟨.exit id, vs', h', up _ _ _ ⟨rfl, rfl, rfl⟩, h2⟩
    | ret => exact ⟨.ret, vs', h', up _ _ _ ⟨rfl, rfl, rfl⟩, h2⟩
  | cond c a b iha ihb =>
    intro Q vs h hh
    simp only [xwp] at hh ⊢
    split at hh
    · exact iha hh
    · exact ihb hh
    · exact hh.elim
  | block id b ih =>
    intro Q vs h hh
    obtain ⟨e, vs', h', h1, h2⟩ := ih (show xwp FN b (xin id Q) vs h from hh)
    have up : ∀ e2 v2 p2, xin id (At e2 v2 p2) e vs' h' → xwp FN (.block id b) (At e2 v2 p2) vs h := fun e2 v2 p2 hq =>
      show xwp FN b (xin id (At e2 v2 p2)) vs h from xwp_mono (fun e v p hx => by obtain ⟨rfl, rfl, rfl⟩ := hx; exact hq) h1
    cases e with
    | normal => exact ⟨.normal, vs', h', up _ _ _ ⟨rfl, rfl, rfl⟩, h2⟩
    | ret => exact ⟨.ret, vs', h', up _ _ _ ⟨rfl, rfl, rfl⟩, h2⟩
    | exit i =>
      simp only [xin] at h2
      split at h2
      · rename_i e
        exact ⟨.normal, vs', h', up _ _ _ (by simp only [xin]; rw [if_pos e]; exact ⟨rfl, rfl, rfl⟩), h2⟩
      · rename_i e
        exact ⟨.exit i, vs', h', up _ _ _ (by simp only [xin]; rw [if_neg e]; exact ⟨rfl, rfl, rfl⟩), h2⟩
  | loop b ih =>
    intro Q vs h hh
    obtain ⟨n, hh⟩ := hh
    obtain ⟨e, vs', h', h1, h2⟩ := xloop_one (body := xwp FN b) (fun hq _ _ hb => xwp_mono hq hb) (fun hb => ih hb) hh
    exact ⟨e, vs', h', ⟨n, h1⟩, h2⟩
  | loopS lv c0 b ih =>
    intro Q vs h hh
    obtain ⟨n, hh⟩ := hh
    obtain ⟨e, vs', h', h1, h2⟩ := xloop_one (body := fun Q vs h => settled lv c0 vs h (xwp FN b Q)) (fun hq _ _ hb => ⟨hb.1, xwp_mono hq hb.2⟩) (fun hb => by
      obtain ⟨e, vs', h', h1, h2⟩ := ih hb.2
      exact ⟨e, vs', h', ⟨hb.1, h1⟩, h2⟩) hh
    exact ⟨e, vs', h', ⟨n, h1⟩, h2⟩
  | frz l b ih =>
    intro Q vs h hh
    exact ih (show xwp FN b Q vs (frzH l h) from hh)
  | exit id => intro Q vs h hh; exact ⟨.exit id, vs, h, ⟨rfl, rfl, rfl⟩, hh⟩
  | ret => intro Q vs h hh; exact ⟨.ret, vs, h, ⟨rfl, rfl, rfl⟩, hh⟩
end
/-- A FUNCTION of whose result a property is known -/
theorem fn_introE {P : Program} {φ : PV → Prop} (hm : P.follows .mixedOrders = true) {f : FuncId} {X : XFn} {s0 : Nat} (hc : compFn P f = some { X with sites := s0, body := strip X.body }) (n : Nat) {szs : List Nat} {args : List PV} (hlen : args.length ≤ X.ntmps)
    (h : ∀ Q : XPost, (∀ r vs h, φ r → fin X.results szs r vs h → Q .ret vs h) → (∀ r vs h, φ r → fin X.results szs r vs h → Q .normal vs h) → Xw (Fn P) X.body Q (X.vars.map fun s => args.getD s .undef) (List.replicate n (0, .dead))) : ∃ r, φ r ∧ Fn P f szs args r := by
  have hh := h (fun e vs h => ∃ r, φ r ∧ xret X.results szs r e vs h) (fun r vs h h1 h2 => ⟨r, h1, trivial, h2⟩) (fun r vs h h1 h2 => ⟨r, h1, trivial, h2⟩)
  rw [Xw_eq] at hh
  obtain ⟨e, vs', h', h1, r, h2, h3⟩ := xwp_one hh
  exact ⟨r, h2, fn_introS hm hc (n := n) hlen (xwp_mono (fun e v p hx => by obtain ⟨rfl, rfl, rfl⟩ := hx; exact h3) h1)⟩
end Go.Proofs.Ytnlapjkfbodbkaa.Am
