/-
  A region in the order of the text, as a trace; what orders do not matter.
-/
import Derived.Test.YtnipkbhgaljcoaaAmQ
namespace Go.Proofs.Ytnipkbhgaljcoaa.Am
set_option linter.unusedSimpArgs false
set_option linter.unusedVariables false
set_option linter.unusedSectionVars false
open Go.RowKit
section
variable {P : Program} {B : Nat} {Z0 : Nat → Prop} {W0 : World}
theorem aop_kind0 {ev : Opd → PV} {lk lk' : Look} {op : XOp} (h : xkind op = 0) : aop ev lk op = aop ev lk' op := by
  cases op <;> (try (simp [xkind] at h; done)) <;> (try rfl)
  case append k sz b m s x => simp only [xkind] at h; split at h <;> simp at h
theorem srcP_ws2 {lk : Look} {p : PV} {news : List PV} {ws : List (Nat × Row)} (h : srcP lk 2 p = some (news, ws)) : ws = [] := by
  cases p <;> simp only [srcP] at h <;> (try (cases h; done)) <;> (try (simp only [Option.some.injEq, Prod.mk.injEq] at h; exact h.2.symm))
  case own k g gl s o l =>
    split at h
    · split at h
      · simp only [show ¬ (2 = 1) by omega, if_false] at h
        split at h
        · rename_i hc
          simp only [Option.some.injEq, Prod.mk.injEq] at h
          have := hc.2 (by first | rfl | trivial)
          rw [if_pos this] at h
          exact h.2.symm
        · cases h
      · cases h
    · cases h
  case nown k g ver i j o l =>
    (repeat' (split at h)) <;> (try (cases h; done))
    simp only [Option.some.injEq, Prod.mk.injEq] at h
    exact h.2.symm
theorem appP_keys {lk : Look} {k sz b : Nat} {s v : PV} {news : List PV} {ws : List (Nat × Row)} (h : appP lk k sz b s news = some (v, ws)) : ∀ y ∈ ws, y.1 = appDst k s := by
  cases s <;> simp only [appP] at h <;> (try (cases h; done))
  all_goals
    (repeat' (split at h)) <;> (try (cases h; done)) <;> (simp only [Option.some.injEq, Prod.mk.injEq] at h; obtain ⟨_, rfl⟩ := h; intro y hy; simp only [List.mem_singleton] at hy; subst hy; rfl)
theorem aop_sites {ev : Opd → PV} {lk : Look} {op : XOp} {p : PV} {ws : List (Nat × Row)} (hk : xkind op ≤ 2) (h : aop ev lk op = some (p, ws)) : ∀ y ∈ ws, y.1 ∈ siteNos op := by
  cases op <;> (try (simp [xkind] at hk; done)) <;> simp only [aop] at h
  case append k sz b m s x =>
    have hm : m = 2 := by simp only [xkind] at hk; split at hk <;> first | assumption | (exfalso; omega)
    subst hm
    split at h
    · rename_i news ws1 hsrc
      obtain rfl := srcP_ws2 hsrc
      split at h
      · rename_i hok
        split at h
        · rename_i v ws' happ
          simp only [Option.some.injEq, Prod.mk.injEq, List.nil_append] at h
          obtain ⟨_, rfl⟩ := h
          intro y hy
          have h1 := appP_keys happ y hy
          simp only [appOk, Bool.and_eq_true] at hok
          obtain ⟨⟨_, h2⟩, _⟩ := hok
          simp only [bne_self_eq_false, Bool.false_or, Bool.and_eq_true, beq_iff_eq] at h2
          rw [h1, h2.2]; simp [siteNos]
        · cases h
      · cases h
    · cases h
  all_goals
    (repeat' (split at h)) <;> (try (cases h; done)) <;> (simp only [Option.some.injEq, Prod.mk.injEq] at h; obtain ⟨_, rfl⟩ := h; intro y hy; first | (simp only [List.mem_singleton] at hy; subst hy; simp [siteNos]; done) | (cases hy; done))
theorem kind0_sites {op : XOp} (h : xkind op = 0) : siteNos op = [] := by
  cases op <;> (try (simp [xkind] at h; done)) <;> (try rfl)
  case append k sz b m s x => simp only [xkind] at h; split at h <;> simp at h
/-- what an operation gives -/
def Res (FN : FuncId → List Nat → List PV → PV → Prop) (x : XOper) (st : XSt) (p : PV) (ws : List (Nat × Row)) : Prop :=
  (gdO st.loc st.vars x.guard = some false ∧ p = .tup [] ∧ ws = []) ∨
  (gdO st.loc st.vars x.guard = some true ∧ ((∃ f args ks al r, x.op = .call f args ks al ∧ FN f (ks.map (·.2)) (args.map fun a => fzV (lkOf st.heap x.hide) (evO st.loc st.vars a)) r ∧
      callOk st.heap.length ks ((args.map (evO st.loc st.vars)).any (hasOwn (lkOf st.heap x.hide))) r = true ∧ p = thV (ksF ks) (genF (lkOf st.heap x.hide)) r ∧ ws = thWs (ksF ks) (genF (lkOf st.heap x.hide)) 0 (rcells r)) ∨
    ((∀ f a k al, x.op ≠ .call f a k al) ∧ aop (evO st.loc st.vars) (lkOf st.heap x.hide) x.op = some (p, ws))))
theorem res_sites {FN : FuncId → List Nat → List PV → PV → Prop} {x : XOper} {st : XSt} {p : PV} {ws : List (Nat × Row)} (h : Res FN x st p ws) (hk : xkind x.op ≤ 2) : ∀ y ∈ ws, y.1 ∈ siteNos x.op := by
  rcases h with ⟨_, _, rfl⟩ | ⟨_, ⟨f, args, ks, al, r, hx, _, hok, _, rfl⟩ | ⟨_, ha⟩⟩
  · intro y hy; simp at hy
  · intro y hy
    rw [hx]
    unfold callOk at hok
    simp only [Bool.and_eq_true] at hok
    obtain ⟨⟨⟨_, _⟩, k3⟩, _⟩ := hok
    obtain ⟨i, es, h1, h2⟩ := thWs_mem hy
    have hm := thWs_in (ks := ksF ks) (gen := fun _ => 0) (q := 0) h1
    have h3 := List.all_eq_true.1 k3 _ (List.mem_map.2 ⟨_, hm, rfl⟩)
    rw [Bool.and_eq_true] at h3
    have := List.contains_iff_mem.1 h3.2
    simp only [siteNos]
    rw [h2]
    simpa using this
  · exact aop_sites hk ha
theorem xrun_trace {FN : FuncId → List Nat → List PV → PV → Prop} {Q : XSt → Prop} : ∀ {xs : List XOper} {st : XSt}, xrun FN xs st Q → ∃ (T : Nat → XSt) (p : Nat → PV) (ws : Nat → List (Nat × Row)), T 0 = st ∧ Q (T xs.length) ∧
    ∀ i x, xs[i]? = some x → Res FN x (T i) (p i) (ws i) ∧ T (i + 1) = ⟨(T i).loc ++ [p i], setO (T i).vars x.var (p i), upd (T i).heap (ws i)⟩
  | [], st, h => ⟨fun _ => st, fun _ => .undef, fun _ => [], rfl, h, fun i x hx => by simp at hx⟩
  | x :: xs, st, h => by
    have : ∃ p ws, Res FN x st p ws ∧ xrun FN xs ⟨st.loc ++ [p], setO st.vars x.var p, upd st.heap ws⟩ Q := by
      cases hg : gdO st.loc st.vars x.guard with
      | none => simp only [xrun, hg] at h
      | some c =>
        cases c with
        | false => simp only [xrun, hg] at h; exact ⟨_, [], .inl ⟨hg, rfl, rfl⟩, h⟩
        | true =>
          by_cases hcall : ∃ f b ks al', x.op = .call f b ks al'
          · obtain ⟨f, b, ks, al', hx⟩ := hcall
            simp only [xrun, hg, hx] at h
            obtain ⟨r, hF, hok, h'⟩ := h
            exact ⟨_, _, .inr ⟨hg, .inl ⟨f, b, ks, al', r, hx, hF, hok, rfl, rfl⟩⟩, h'⟩
          · obtain ⟨p, ws, ha, h'⟩ := xrun_op (fun f b ks al' e => hcall ⟨f, b, ks, al', e⟩) hg h
            exact ⟨p, ws, .inr ⟨hg, .inr ⟨fun f b ks al' e => hcall ⟨f, b, ks, al', e⟩, ha⟩⟩, h'⟩
    obtain ⟨p0, ws0, h0, h1⟩ := this
    obtain ⟨T, p, ws, t1, t2, t3⟩ := xrun_trace h1
    refine ⟨fun i => match i with | 0 => st | i + 1 => T i, fun i => match i with | 0 => p0 | i + 1 => p i, fun i => match i with | 0 => ws0 | i + 1 => ws i, rfl, t2, fun i y hy => ?_⟩
    cases i with
    | zero => simp only [List.getElem?_cons_zero, Option.some.injEq] at hy; subst hy; exact ⟨h0, t1⟩
    | succ i => exact t3 i y (by simpa using hy)
/-- the last number before n with a property -/
def lastP (q : Nat → Bool) : Nat → Option Nat
  | 0 => none
  | i + 1 => if q i then some i else lastP q i
theorem lastP_some {q : Nat → Bool} : ∀ {n j : Nat}, lastP q n = some j → j < n ∧ q j = true
  | 0, j, h => by simp [lastP] at h
  | n + 1, j, h => by
    simp only [lastP] at h
    split at h
    · rename_i hq; cases h; exact ⟨by omega, hq⟩
    · obtain ⟨h1, h2⟩ := lastP_some h; exact ⟨by omega, h2⟩
theorem lastP_congr {q q' : Nat → Bool} : ∀ {n : Nat}, (∀ j, j < n → q j = q' j) → lastP q n = lastP q' n
  | 0, _ => rfl
  | n + 1, h => by simp only [lastP]; rw [h n (by omega), lastP_congr fun j hj => h j (by omega)]
theorem lastP_cut {q : Nat → Bool} {i : Nat} : ∀ {n : Nat}, i ≤ n → (∀ j, i ≤ j → j < n → q j = false) → lastP q n = lastP q i
  | 0, h, _ => by
    obtain rfl : i = 0 := (by omega)
    rfl
  | n + 1, h, hq => by
    by_cases hi : i = n + 1
    · subst hi; rfl
    · simp only [lastP]
      rw [hq n (by omega) (by omega), if_neg (by simp)]
      exact lastP_cut (by omega) fun j h1 h2 => hq j h1 (by omega)
/-- the last writer is the same, where nothing that writes there may come in another order -/
theorem last_agree {S q : Nat → Bool} {n i : Nat} (hi : i < n) (hS : S i = false) (hC : ∀ j, j < n → ((j < i ∧ S j = false) ∨ (i < j ∧ S j = true)) → q j = false) : lastP (fun j => S j && q j) n = lastP q i := by
  rw [lastP_cut (Nat.le_of_lt hi) fun j h1 h2 => ?_]
  · refine lastP_congr fun j hj => ?_
    cases hs : S j
    · rw [hC j (by omega) (.inl ⟨hj, hs⟩)]; rfl
    · rfl
  · by_cases hji : j = i
    · subst hji; rw [hS]; rfl
    · cases hs : S j
      · rfl
      · rw [hC j h2 (.inr ⟨by omega, hs⟩)]; rfl
theorem last_put {S q : Nat → Bool} {n i : Nat} (hi : i < n) (hq : q i = true) (hC : ∀ j, j < n → i < j → S j = true → q j = false) : lastP (fun j => (S j || j == i) && q j) n = some i := by
  rw [lastP_cut (i := i + 1) (by omega) fun j h1 h2 => ?_]
  · simp only [lastP]; simp [hq]
  · have hne : (j == i) = false := by simp; omega
    simp only [hne, Bool.or_false]
    cases hs : S j
    · rfl
    · rw [hC j h2 (by omega) hs]; rfl
theorem last_skip {S q : Nat → Bool} {n i : Nat} (hq : q i = false) : lastP (fun j => (S j || j == i) && q j) n = lastP (fun j => S j && q j) n := by
  refine lastP_congr fun j _ => ?_
  by_cases hji : j = i
  · subst hji; simp [hq]
  · have hne : (j == i) = false := by simpa using hji
    simp [hne]
theorem lastW_lastP {ops : List Oper} {t : Nat} : ∀ {i : Nat}, lastW ops t i = lastP (fun j => decide ((ops[j]?).bind (·.dst) = some t)) i
  | 0 => rfl
  | i + 1 => by simp only [lastW, lastP, decide_eq_true_eq]; rw [lastW_lastP]
theorem upd_key : ∀ {ws : List (Nat × Row)} {h h' : Heap} {k : Nat}, k ∈ ws.map (·.1) → h.length = h'.length → (upd h ws)[k]? = (upd h' ws)[k]?
  | [], _, _, _, hk, _ => by simp at hk
  | (k0, r) :: ws, h, h', k, hk, hl => by
    show (upd (h.set k0 r) ws)[k]? = (upd (h'.set k0 r) ws)[k]?
    by_cases hm : k ∈ ws.map (·.1)
    · exact upd_key hm (by simpa using hl)
    · have : k = k0 := by simp only [List.map_cons, List.mem_cons] at hk; exact hk.resolve_right hm
      subst this
      rw [upd_other _ _ _ hm, upd_other _ _ _ hm, List.getElem?_set_self', List.getElem?_set_self']
      by_cases hkl : k < h.length
      · rw [List.getElem?_eq_getElem hkl, List.getElem?_eq_getElem (hl ▸ hkl)]; rfl
      · rw [List.getElem?_eq_none (by omega), List.getElem?_eq_none (by omega)]
/-- the trace of a region: what lies in its locals, its variables, its objects -/
structure Trace (FN : FuncId → List Nat → List PV → PV → Prop) (xs : List XOper) (vars : List PV) (h : Heap) (T : Nat → XSt) (p : Nat → PV) (ws : Nat → List (Nat × Row)) : Prop where
  t0 : T 0 = ⟨[], vars, h⟩
  st : ∀ i x, xs[i]? = some x → Res FN x (T i) (p i) (ws i) ∧ T (i + 1) = ⟨(T i).loc ++ [p i], setO (T i).vars x.var (p i), upd (T i).heap (ws i)⟩
section
variable {FN : FuncId → List Nat → List PV → PV → Prop} {xs : List XOper} {vars : List PV} {h : Heap} {T : Nat → XSt} {p : Nat → PV} {ws : Nat → List (Nat × Row)}
theorem Trace.next (t : Trace FN xs vars h T p ws) {i : Nat} (hi : i < xs.length) : T (i + 1) = ⟨(T i).loc ++ [p i], setO (T i).vars (xs[i]).var (p i), upd (T i).heap (ws i)⟩ := (t.st i _ (List.getElem?_eq_getElem hi)).2
theorem Trace.loc (t : Trace FN xs vars h T p ws) : ∀ {i : Nat}, i ≤ xs.length → (T i).loc.length = i ∧ ∀ j, j < i → (T i).loc.getD j .undef = p j
  | 0, _ => by rw [t.t0]; exact ⟨rfl, fun j hj => by omega⟩
  | i + 1, hi => by
    obtain ⟨h1, h2⟩ := t.loc (i := i) (by omega)
    rw [t.next (by omega)]
    refine ⟨by simp [h1], fun j hj => ?_⟩
    by_cases hji : j = i
    · subst hji
      simp only [List.getD_eq_getElem?_getD]
      rw [List.getElem?_append_right (by omega), h1]; simp
    · have := h2 j (by omega)
      simp only [List.getD_eq_getElem?_getD] at this ⊢
      rw [List.getElem?_append_left (by omega)]; exact this
theorem Trace.len (t : Trace FN xs vars h T p ws) : ∀ {i : Nat}, i ≤ xs.length → (T i).heap.length = h.length
  | 0, _ => by rw [t.t0]
  | i + 1, hi => by rw [t.next (by omega)]; simp only [upd_length]; exact t.len (by omega)
def wr (ws : Nat → List (Nat × Row)) (k j : Nat) : Bool := ((ws j).map (·.1)).contains k
theorem Trace.heap (t : Trace FN xs vars h T p ws) (k : Nat) : ∀ {i : Nat}, i ≤ xs.length → (T i).heap[k]? = match lastP (wr ws k) i with | some j => (T (j + 1)).heap[k]? | none => h[k]?
  | 0, _ => by rw [t.t0]; rfl
  | i + 1, hi => by
    simp only [lastP]
    by_cases hw : wr ws k i = true
    · rw [if_pos hw]
    · rw [if_neg hw, ← t.heap k (i := i) (by omega), t.next (by omega)]
      exact upd_other _ _ _ fun hm => hw (List.contains_iff_mem.2 hm)
theorem Trace.vr (t : Trace FN xs vars h T p ws) {q : Nat → Bool} {k : Nat} (hq : ∀ j (hj : j < xs.length), (xs[j]).var = some k → q j = true) (hq' : ∀ j (hj : j < xs.length), q j = true → (xs[j]).var = some k) : ∀ {i : Nat}, i ≤ xs.length → (T i).vars.getD k .undef = .undef ∨ (T i).vars.getD k .undef = match lastP q i with | some j => p j | none => vars.getD k .undef
  | 0, _ => by rw [t.t0]; exact .inr rfl
  | i + 1, hi => by
    simp only [lastP]
    have hi' : i < xs.length := by omega
    rw [t.next hi']
    by_cases hv : (xs[i]).var = some k
    · rw [if_pos (hq i hi' hv), hv]
      simp only [setO, List.getD_eq_getElem?_getD]
      by_cases hl : k < (T i).vars.length
      · right; rw [List.getElem?_set_self hl]; rfl
      · left; rw [List.getElem?_eq_none (by simp; omega)]; rfl
    · rw [if_neg fun e => hv (hq' i hi' e)]
      have : (setO (T i).vars (xs[i]).var (p i)).getD k .undef = (T i).vars.getD k .undef := by
        cases hx : (xs[i]).var with
        | none => rfl
        | some k0 =>
          simp only [setO, List.getD_eq_getElem?_getD]
          rw [List.getElem?_set_ne fun e => hv (by rw [hx, e])]
      rw [this]
      exact t.vr hq hq' (by omega)
end
end
end Go.Proofs.Ytnipkbhgaljcoaa.Am
