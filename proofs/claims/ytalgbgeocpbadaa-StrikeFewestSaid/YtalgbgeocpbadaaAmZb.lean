/-
  A run ends in one state; a function of which only a property is wanted.
-/
import Derived.Test.YtalgbgeocpbadaaAmZa
namespace Go.Proofs.Ytalgbgeocpbadaa.Am
set_option linter.unusedSimpArgs false
set_option linter.unusedVariables false
set_option linter.unusedSectionVars false
section
variable {P : Program}
theorem xrun_one : ∀ {xs : List XOper} {st : XSt} {Q : XSt → Prop}, xrun (fns P) xs st Q → ∃ st', xrun (fns P) xs st (· = st') ∧ Q st'
  | [], st, Q, h => ⟨st, rfl, h⟩
  | x :: xs, st, Q, h => by
    cases hg : gdO st.loc st.vars x.guard with
    | none => simp only [xrun, hg] at h
    | some c =>
      cases c with
      | false => simp only [xrun, hg] at h ⊢; exact xrun_one h
      | true =>
        cases hx : x.op
        case call f args ks al =>
          simp only [xrun, hg, hx] at h ⊢
          obtain ⟨r, h1, h2, h3⟩ := h
          obtain ⟨st', h4, h5⟩ := xrun_one h3
          exact ⟨st', ⟨r, h1, h2, h4⟩, h5⟩
        case callv f args =>
          simp only [xrun, hg, hx] at h ⊢
          obtain ⟨r, ws, h1, h3⟩ := h
          obtain ⟨st', h4, h5⟩ := xrun_one h3
          exact ⟨st', ⟨r, ws, h1, h4⟩, h5⟩
        case cally f args =>
          simp only [xrun, hg, hx] at h ⊢
          obtain ⟨r, ws, h1, h2, h3⟩ := h
          obtain ⟨st', h4, h5⟩ := xrun_one h3
          exact ⟨st', ⟨r, ws, h1, h2, h4⟩, h5⟩
        all_goals
          simp only [xrun, hg, hx] at h ⊢
          split at h
          · exact xrun_one h
          · exact h.elim
abbrev At (e : XExit) (vs : List PV) (h : Heap) : XPost := fun e' vs' h' => e' = e ∧ vs' = vs ∧ h' = h
theorem xloop_one {body : XPost → List PV → Heap → Prop} (hm : ∀ {Q Q' : XPost}, (∀ e vs h, Q e vs h → Q' e vs h) → ∀ {vs h}, body Q vs h → body Q' vs h) (hb : ∀ {Q : XPost} {vs h}, body Q vs h → ∃ e vs' h', body (At e vs' h') vs h ∧ Q e vs' h') : ∀ {n : Nat} {Q : XPost} {vs : List PV} {h : Heap}, xloop body Q n vs h → ∃ e vs' h', xloop body (At e vs' h') n vs h ∧ Q e vs' h'
  | 0, _, _, _, hh => hh.elim
  | n + 1, Q, vs, h, hh => by
    obtain ⟨e, vs', h', h1, h2⟩ := hb (show body (xthen (xloop body Q n) Q) vs h from hh)
    cases e with
    | normal =>
      obtain ⟨e2, vs2, hp2, h3, h4⟩ := xloop_one hm hb (show xloop body Q n vs' h' from h2)
      refine ⟨e2, vs2, hp2, hm (fun e v p hx => ?_) h1, h4⟩
      obtain ⟨rfl, rfl, rfl⟩ := hx
      exact h3
    | exit id => exact ⟨.exit id, vs', h', hm (fun e v p hx => by obtain ⟨rfl, rfl, rfl⟩ := hx; exact ⟨rfl, rfl, rfl⟩) h1, h2⟩
    | ret => exact ⟨.ret, vs', h', hm (fun e v p hx => by obtain ⟨rfl, rfl, rfl⟩ := hx; exact ⟨rfl, rfl, rfl⟩) h1, h2⟩
/-- is there no loop over a function in it? -/
def noX : XCode → Bool
  | .seq a b | .cond _ a b => noX a && noX b
  | .block _ b | .loop b | .loopS _ _ b | .frz _ b | .mat _ _ _ _ b => noX b
  | .rfor .. => false
  | _ => true
theorem xwp_one : ∀ {c : XCode}, noX c = true → ∀ {Q : XPost} {vs : List PV} {h : Heap}, xwp (fns P) c Q vs h → ∃ e vs' h', xwp (fns P) c (At e vs' h') vs h ∧ Q e vs' h' := by
  intro c
  induction c with
  | skip => intro hnx Q vs h hh; exact ⟨.normal, vs, h, ⟨rfl, rfl, rfl⟩, hh⟩
  | reg xs =>
    intro hnx Q vs h hh
    obtain ⟨st', h1, h2⟩ := xrun_one hh.2
    exact ⟨.normal, st'.vars, st'.heap, ⟨hh.1, xrun_mono (fun st e => by subst e; exact ⟨rfl, rfl, rfl⟩) h1⟩, h2⟩
  | seq a b iha ihb =>
    intro hnx Q vs h hh
    simp only [noX, Bool.and_eq_true] at hnx
    obtain ⟨e, vs', h', h1, h2⟩ := iha hnx.1 (show xwp (fns P) a (xthen (xwp (fns P) b Q) Q) vs h from hh)
    have up : ∀ e2 v2 p2, xthen (xwp (fns P) b (At e2 v2 p2)) (At e2 v2 p2) e vs' h' → xwp (fns P) (.seq a b) (At e2 v2 p2) vs h := fun e2 v2 p2 hq =>
      show xwp (fns P) a (xthen (xwp (fns P) b (At e2 v2 p2)) (At e2 v2 p2)) vs h from xwp_mono (fun e v p hx => by obtain ⟨rfl, rfl, rfl⟩ := hx; exact hq) h1
    cases e with
    | normal =>
      obtain ⟨e2, vs2, hp2, h3, h4⟩ := ihb hnx.2 (show xwp (fns P) b Q vs' h' from h2)
      exact ⟨e2, vs2, hp2, up _ _ _ h3, h4⟩
    | exit id => exact ⟨.exit id, vs', h', up _ _ _ ⟨rfl, rfl, rfl⟩, h2⟩
    | ret => exact ⟨.ret, vs', h', up _ _ _ ⟨rfl, rfl, rfl⟩, h2⟩
  | cond c a b iha ihb =>
    intro hnx Q vs h hh
    simp only [noX, Bool.and_eq_true] at hnx
    simp only [xwp] at hh ⊢
    split at hh
    · exact iha hnx.1 hh
    · exact ihb hnx.2 hh
    · exact hh.elim
  | block id b ih =>
    intro hnx Q vs h hh
    obtain ⟨e, vs', h', h1, h2⟩ := ih hnx (show xwp (fns P) b (xin id Q) vs h from hh)
    have up : ∀ e2 v2 p2, xin id (At e2 v2 p2) e vs' h' → xwp (fns P) (.block id b) (At e2 v2 p2) vs h := fun e2 v2 p2 hq =>
      show xwp (fns P) b (xin id (At e2 v2 p2)) vs h from xwp_mono (fun e v p hx => by obtain ⟨rfl, rfl, rfl⟩ := hx; exact hq) h1
    cases e with
    | normal => exact ⟨.normal, vs', h', up _ _ _ ⟨rfl, rfl, rfl⟩, h2⟩
    | ret => exact ⟨.ret, vs', h', up _ _ _ ⟨rfl, rfl, rfl⟩, h2⟩
    | exit i =>
      simp only [xin] at h2
      split at h2
      · rename_i e
        exact ⟨.normal, vs', h', up _ _ _ (by simp only [xin]; rw [if_pos e]; exact ⟨rfl, rfl, rfl⟩), h2⟩
      · rename_i e
        exact ⟨.exit i, vs', h', up _ _ _ (by simp only [xin]; rw [if_neg e]; exact ⟨rfl, rfl, rfl⟩), h2⟩
  | loop b ih =>
    intro hnx Q vs h hh
    obtain ⟨n, hh⟩ := hh
    obtain ⟨e, vs', h', h1, h2⟩ := xloop_one (body := xwp (fns P) b) (fun hq _ _ hb => xwp_mono hq hb) (fun hb => ih hnx hb) hh
    exact ⟨e, vs', h', ⟨n, h1⟩, h2⟩
  | loopS lv c0 b ih =>
    intro hnx Q vs h hh
    obtain ⟨n, hh⟩ := hh
    obtain ⟨e, vs', h', h1, h2⟩ := xloop_one (body := fun Q vs h => settled lv c0 vs h (xwp (fns P) b Q)) (fun hq _ _ hb => ⟨hb.1, xwp_mono hq hb.2⟩) (fun hb => by
      obtain ⟨e, vs', h', h1, h2⟩ := ih hnx hb.2
      exact ⟨e, vs', h', ⟨hb.1, h1⟩, h2⟩) hh
    exact ⟨e, vs', h', ⟨n, h1⟩, h2⟩
  | frz l b ih =>
    intro hnx Q vs h hh
    exact ih hnx (show xwp (fns P) b Q vs (frzH l h) from hh)
  | mat v c k sz b ih =>
    intro hnx Q vs h hh
    exact ih hnx (show xwp (fns P) b Q (matP v c k sz vs h).1 (matP v c k sz vs h).2 from hh)
  | rfor => intro hnx; simp [noX] at hnx
  | exit id => intro hnx Q vs h hh; exact ⟨.exit id, vs, h, ⟨rfl, rfl, rfl⟩, hh⟩
  | ret => intro hnx Q vs h hh; exact ⟨.ret, vs, h, ⟨rfl, rfl, rfl⟩, hh⟩
end
/-- A FUNCTION of whose result a property is known -/
theorem fn_introE {P : Program} {φ : PV → Prop} (hm : P.follows .mixedOrders = true) {f : FuncId} {X : XFn} {s0 : Nat} (hc : compFn P f = some { X with sites := s0, body := strip X.body }) (n : Nat) {szs : List Nat} {args : List PV} (hlen : args.length ≤ X.ntmps)
    (hnx : noX X.body = true) (h : ∀ Q : XPost, (∀ r vs h, φ r → fin X.results szs r vs h → Q .ret vs h) → (∀ r vs h, φ r → fin X.results szs r vs h → Q .normal vs h) → Xw (fns P) X.body Q (X.vars.map fun s => args.getD s .undef) (List.replicate n (0, .dead))) : ∃ r, φ r ∧ Fn P f szs args r := by
  have hh := h (fun e vs h => ∃ r, φ r ∧ xret X.results szs r e vs h) (fun r vs h h1 h2 => ⟨r, h1, trivial, h2⟩) (fun r vs h h1 h2 => ⟨r, h1, trivial, h2⟩)
  rw [Xw_eq] at hh
  obtain ⟨e, vs', h', h1, r, h2, h3⟩ := xwp_one hnx hh
  exact ⟨r, h2, fn_introS hm hc (n := n) hlen (xwp_mono (fun e v p hx => by obtain ⟨rfl, rfl, rfl⟩ := hx; exact h3) h1)⟩
/-- a loop that is not settled (functions that share the caller's memory) -/
theorem loopR {FN : FNs} {Q : XPost} {vs : List PV} {h : Heap} {σ : Type} (I : σ → List PV → Heap → Prop) (μ : σ → Nat) {b : XCode} (s : σ) (hstart : I s vs h)
    (hround : ∀ s vs h, I s vs h → ∀ Q' : XPost, (∀ s' vs h, μ s' < μ s → I s' vs h → Q' .normal vs h) → (∀ id vs h, Q (.exit id) vs h → Q' (.exit id) vs h) → (∀ vs h, Q .ret vs h → Q' .ret vs h) → Xw FN b Q' vs h) : Xw FN (.loop b) Q vs h := by
  rw [Xw_eq] at hround ⊢
  have key : ∀ n s vs h, μ s < n → I s vs h → xloop (xwp FN b) Q n vs h := by
    intro n
    induction n with
    | zero => intro s vs h hn; omega
    | succ n ih =>
      intro s vs h hn hs
      exact hround s vs h hs _ (fun s' vs h h1 h2 => ih s' vs h (by omega) h2) (fun _ _ _ => id) fun _ _ => id
  exact ⟨μ s + 1, key _ s vs h (by omega) hstart⟩
/-- what a body's end gives, of a function that shares the caller's memory -/
def finI (rs : List (Nat × Option (Bool × Nat))) (r : PV) (h0 : Heap) (ws : List (Nat × Row)) (vs : List PV) (h : Heap) : Prop :=
  ∃ l, resVs (lkOf h []) vs rs = some l ∧ (l.length == 1 || l.all flat1) = true ∧ oneV l = r ∧ h = upd h0 ws
/-- A FUNCTION THAT SHARES THE CALLER'S MEMORY, of which a property is known -/
theorem fn_introIE {P : Program} {φ : PV → List (Nat × Row) → Prop} (hm : P.follows .mixedOrders = true) {f : FuncId} {off : Nat} {X : XFn} (hc : compFnAt P f off = some X) {first args cap : List PV} {h0 : Heap} (hlen : (first ++ args ++ cap).length ≤ X.ntmps) (ho : (first.all one && cap.all one) = true)
    (hnx : noX X.body = true) (h : ∀ Q : XPost, (∀ r ws vs h, φ r ws → finI X.results r h0 ws vs h → Q .ret vs h) → (∀ r ws vs h, φ r ws → finI X.results r h0 ws vs h → Q .normal vs h) → Xw (fns P) X.body Q (X.vars.map fun s => (first ++ args ++ cap).getD s .undef) h0) : ∃ r ws, φ r ws ∧ FI P (.fn (.func f) first cap) args h0 r ws := by
  have hh := h (fun e vs h => ∃ r ws, φ r ws ∧ xretI X.results r h0 ws e vs h) (fun r ws vs h h1 h2 => ⟨r, ws, h1, trivial, h2⟩) (fun r ws vs h h1 h2 => ⟨r, ws, h1, trivial, h2⟩)
  rw [Xw_eq] at hh
  obtain ⟨e, vs', h', h1, r, ws, h2, h3⟩ := xwp_one hnx hh
  exact ⟨r, ws, h2, fn_introI hm hc hlen ho (xwp_mono (fun e v p hx => by obtain ⟨rfl, rfl, rfl⟩ := hx; exact h3) h1)⟩
theorem fn_introXI {P : Program} (hm : P.follows .mixedOrders = true) {f : FuncId} {off : Nat} {X : XFn} (hc : compFnAt P f off = some X) {first args cap : List PV} {h0 : Heap} {r : PV} {ws : List (Nat × Row)} (hlen : (first ++ args ++ cap).length ≤ X.ntmps) (ho : (first.all one && cap.all one) = true)
    (h : ∀ Q : XPost, (∀ vs h, finI X.results r h0 ws vs h → Q .ret vs h) → (∀ vs h, finI X.results r h0 ws vs h → Q .normal vs h) → Xw (fns P) X.body Q (X.vars.map fun s => (first ++ args ++ cap).getD s .undef) h0) : FI P (.fn (.func f) first cap) args h0 r ws :=
  fn_introI hm hc hlen ho (by rw [← Xw_eq]; exact h _ (fun _ _ h => ⟨trivial, h⟩) fun _ _ h => ⟨trivial, h⟩)
theorem fn_introXF {P : Program} (hm : P.follows .mixedOrders = true) {f : FuncId} {off s0 : Nat} {X : XFn} (hc : compFnAt P f off = some { X with sites := s0, body := strip X.body }) (hns : noLS X.body = true) {first args cap : List PV} {h0 : Heap} {r : PV} {ws : List (Nat × Row)} (hlen : (first ++ args ++ cap).length ≤ X.ntmps) (ho : (first.all one && cap.all one) = true)
    (h : ∀ Q : XPost, (∀ vs h, finI X.results r h0 ws vs h → Q .ret vs h) → (∀ vs h, finI X.results r h0 ws vs h → Q .normal vs h) → Xw (fns P) X.body Q (X.vars.map fun s => (first ++ args ++ cap).getD s .undef) h0) : FI P (.fn (.func f) first cap) args h0 r ws :=
  fn_introIF hm hc hns hlen ho (by rw [← Xw_eq]; exact h _ (fun _ _ h => ⟨trivial, h⟩) fun _ _ h => ⟨trivial, h⟩)
end Go.Proofs.Ytalgbgeocpbadaa.Am
