/-
  A region in the order of the text, as a trace; what orders do not matter.
-/
import Derived.Test.YtalgbgeocpbadaaAmQ
namespace Go.Proofs.Ytalgbgeocpbadaa.Am
set_option linter.unusedSimpArgs false
set_option linter.unusedVariables false
set_option linter.unusedSectionVars false
open Go.RowKit
section
variable {P : Program} {B : Nat} {Z0 : Nat → Prop} {W0 : Anch B}
theorem aop_kind0 {ev : Opd → PV} {lk lk' : Look} {op : XOp} (h : xkind op = 0) : aop ev lk op = aop ev lk' op := by
  cases op <;> (try (simp [xkind] at h; done)) <;> (try rfl)
  case append k sz b m s x => simp only [xkind] at h; split at h <;> simp at h
theorem srcP_ws2 {lk : Look} {p : PV} {news : List PV} {ws : List (Nat × Row)} (h : srcP lk 2 p = some (news, ws)) : ws = [] := by
  cases p <;> simp only [srcP] at h <;> (try (cases h; done)) <;> (try (simp only [Option.some.injEq, Prod.mk.injEq] at h; exact h.2.symm))
  case own k g gl s o l =>
    split at h
    · split at h
      · simp only [show ¬ (2 = 1) by omega, if_false] at h
        split at h
        · rename_i hc
          simp only [Option.some.injEq, Prod.mk.injEq] at h
          have := hc.2 (by first | rfl | trivial)
          rw [if_pos this] at h
          exact h.2.symm
        · cases h
      · cases h
    · cases h
  case nown k g ver i j o l =>
    (repeat' (split at h)) <;> (try (cases h; done))
    simp only [Option.some.injEq, Prod.mk.injEq] at h
    exact h.2.symm
theorem appP_keys {lk : Look} {k sz b : Nat} {s v : PV} {news : List PV} {ws : List (Nat × Row)} (h : appP lk k sz b s news = some (v, ws)) : ∀ y ∈ ws, y.1 = appDst k s := by
  cases s <;> simp only [appP] at h <;> (try (cases h; done))
  all_goals
    (repeat' (split at h)) <;> (try (cases h; done)) <;> (simp only [Option.some.injEq, Prod.mk.injEq] at h; obtain ⟨_, rfl⟩ := h; intro y hy; simp only [List.mem_singleton] at hy; subst hy; rfl)
theorem aop_sites {ev : Opd → PV} {lk : Look} {op : XOp} {p : PV} {ws : List (Nat × Row)} (hk : xkind op ≤ 2) (h : aop ev lk op = some (p, ws)) : ∀ y ∈ ws, y.1 ∈ siteNos op := by
  cases op <;> (try (simp [xkind] at hk; done)) <;> simp only [aop] at h
  case append k sz b m s x =>
    have hm : m = 2 := by simp only [xkind] at hk; split at hk <;> first | assumption | (exfalso; omega)
    subst hm
    split at h
    · rename_i news ws1 hsrc
      obtain rfl := srcP_ws2 hsrc
      split at h
      · rename_i hok
        split at h
        · rename_i v ws' happ
          simp only [Option.some.injEq, Prod.mk.injEq, List.nil_append] at h
          obtain ⟨_, rfl⟩ := h
          intro y hy
          have h1 := appP_keys happ y hy
          simp only [appOk, Bool.and_eq_true] at hok
          obtain ⟨⟨_, h2⟩, _⟩ := hok
          simp only [bne_self_eq_false, Bool.false_or, Bool.and_eq_true, beq_iff_eq] at h2
          rw [h1, h2.2]; simp [siteNos]
        · cases h
      · cases h
    · cases h
  all_goals
    (repeat' (split at h)) <;> (try (cases h; done)) <;> (simp only [Option.some.injEq, Prod.mk.injEq] at h; obtain ⟨_, rfl⟩ := h; intro y hy; first | (simp only [List.mem_singleton] at hy; subst hy; simp [siteNos]; done) | (cases hy; done))
theorem kind0_sites {op : XOp} (h : xkind op = 0) : siteNos op = [] := by
  cases op <;> (try (simp [xkind] at h; done)) <;> (try rfl)
  case append k sz b m s x => simp only [xkind] at h; split at h <;> simp at h
/-! what an append writes is not hidden -/
def isA : Ob → Bool
  | .arr .. => true
  | _ => false
def isV : Ob → Bool
  | .var _ => true
  | _ => false
theorem isA_live {o : Ob} (h : isA o = true) : o ≠ .dead := by cases o <;> simp [isA] at h ⊢
theorem isA_var {o : Ob} (h : isA o = true) : isV o = false := by cases o <;> simp [isA] at h ⊢ <;> rfl
theorem embC_live {lk : Look} {c d : PV} {ks : List Nat} (h : embC lk c = some (d, ks)) : ∀ k ∈ ks, isA (lk k).2 = true := by
  cases c <;> simp only [embC] at h <;> (try (cases h; done)) <;> (try (simp only [Option.some.injEq, Prod.mk.injEq] at h; obtain ⟨_, rfl⟩ := h; intro k hk; cases hk; done))
  case own k g gl s o l =>
    split at h
    · rename_i he
      split at h
      · split at h
        · simp only [Option.some.injEq, Prod.mk.injEq] at h; obtain ⟨_, rfl⟩ := h; intro k hk; cases hk
        · simp only [Option.some.injEq, Prod.mk.injEq] at h; obtain ⟨_, rfl⟩ := h
          intro k' hk; simp only [List.mem_singleton] at hk; subst hk; rw [he]; rfl
      · cases h
    · cases h
theorem embCs_live {lk : Look} : ∀ {cs ds : List PV} {ks : List Nat}, embCs lk cs = some (ds, ks) → ∀ k ∈ ks, isA (lk k).2 = true
  | [], ds, ks, h => by simp only [embCs, Option.some.injEq, Prod.mk.injEq] at h; obtain ⟨_, rfl⟩ := h; intro k hk; cases hk
  | c :: cs, ds, ks, h => by
    simp only [embCs] at h
    split at h
    · rename_i d ks1 ds1 ls h1 h2
      split at h
      · simp only [Option.some.injEq, Prod.mk.injEq] at h
        obtain ⟨_, rfl⟩ := h
        intro k hk
        rcases List.mem_append.1 hk with hk | hk
        · exact embCs_live h2 k hk
        · exact embC_live h1 k hk
      · cases h
    · cases h
theorem embE_live {lk : Look} {e d : PV} {ks : List Nat} (h : embE lk e = some (d, ks)) : ∀ k ∈ ks, isA (lk k).2 = true := by
  unfold embE at h
  split at h
  · rename_i h1
    simp only [Option.some.injEq, Prod.mk.injEq] at h
    obtain ⟨_, rfl⟩ := h
    exact embCs_live h1
  · cases h
theorem embEs_live {lk : Look} : ∀ {cs ds : List PV} {ks : List Nat}, embEs lk cs = some (ds, ks) → ∀ k ∈ ks, isA (lk k).2 = true
  | [], ds, ks, h => by simp only [embEs, Option.some.injEq, Prod.mk.injEq] at h; obtain ⟨_, rfl⟩ := h; intro k hk; cases hk
  | c :: cs, ds, ks, h => by
    simp only [embEs] at h
    split at h
    · rename_i d ks1 ds1 ls h1 h2
      split at h
      · simp only [Option.some.injEq, Prod.mk.injEq] at h
        obtain ⟨_, rfl⟩ := h
        intro k hk
        rcases List.mem_append.1 hk with hk | hk
        · exact embEs_live h2 k hk
        · exact embE_live h1 k hk
      · cases h
    · cases h
theorem kill_keys {lk : Look} {ks : List Nat} : ∀ y ∈ kill lk ks, y.1 ∈ ks := fun y hy => by
  obtain ⟨k, hk, rfl⟩ := List.mem_map.1 hy; exact hk
theorem srcP_live {lk : Look} {m : Nat} {p : PV} {news : List PV} {ws : List (Nat × Row)} (h : srcP lk m p = some (news, ws)) : ∀ y ∈ ws, isA (lk y.1).2 = true := by
  cases p <;> simp only [srcP] at h <;> (try (cases h; done)) <;> (try (simp only [Option.some.injEq, Prod.mk.injEq] at h; obtain ⟨_, rfl⟩ := h; intro y hy; cases hy; done))
  case own k g gl s o l =>
    split at h
    · rename_i he
      have hk : isA (lk k).2 = true := by rw [he]; rfl
      split at h
      · split at h
        · split at h
          · rename_i h1
            split at h
            · cases h
            · simp only [Option.some.injEq, Prod.mk.injEq] at h
              obtain ⟨_, rfl⟩ := h
              intro y hy
              have := kill_keys y hy
              rcases List.mem_append.1 this with h2 | h2
              · exact embEs_live h1 _ h2
              · simp only [List.mem_singleton] at h2; rw [h2]; exact hk
          · cases h
        · split at h
          · simp only [Option.some.injEq, Prod.mk.injEq] at h
            obtain ⟨_, rfl⟩ := h
            split
            · intro y hy; cases hy
            · intro y hy; simp only [List.mem_singleton] at hy; subst hy; exact hk
          · cases h
      · cases h
    · cases h
  case nown k g ver i j o l =>
    (repeat' (split at h)) <;> (try (cases h; done))
    simp only [Option.some.injEq, Prod.mk.injEq] at h
    obtain ⟨_, rfl⟩ := h
    intro y hy; cases hy
theorem lkOf_live {h : Heap} {hide : List Nat} {k : Nat} (hl : (lkOf h hide k).2 ≠ .dead) : hide.contains k = false := by
  unfold lkOf at hl
  cases hc : hide.contains k
  · rfl
  · rw [hc] at hl; exact absurd rfl hl
theorem aop_nohide {ev : Opd → PV} {h : Heap} {hide : List Nat} {op : XOp} {p : PV} {ws : List (Nat × Row)} (happ : isApp op = true) (ha : aop ev (lkOf h hide) op = some (p, ws)) (hs : ∀ k ∈ siteNos op, hide.contains k = false) : ∀ y ∈ ws, hide.contains y.1 = false := by
  cases op <;> (try (simp [isApp] at happ; done))
  case append k sz b m s x =>
    simp only [aop] at ha
    split at ha
    · rename_i news ws1 hsrc
      split at ha
      · split at ha
        · rename_i v ws' hap
          simp only [Option.some.injEq, Prod.mk.injEq] at ha
          obtain ⟨_, rfl⟩ := ha
          intro y hy
          rcases List.mem_append.1 hy with hy | hy
          · exact lkOf_live (isA_live (srcP_live hsrc y hy))
          · have h1 := appP_keys hap y hy
            cases hsv : ev s
            case own k1 g gl s' o l =>
              rw [hsv] at h1 hap
              simp only [appDst] at h1
              rw [h1]
              simp only [appP] at hap
              split at hap
              · rename_i he
                exact lkOf_live (by rw [he]; simp)
              · cases hap
            all_goals (rw [hsv] at h1; simp only [appDst] at h1; rw [h1]; exact hs k (by simp [siteNos]))
        · cases ha
      · cases ha
    · cases ha
/-- what an operation gives -/
def Res (FN : FNs) (x : XOper) (st : XSt) (p : PV) (ws : List (Nat × Row)) : Prop :=
  (gdO st.loc st.vars x.guard = some false ∧ p = .tup [] ∧ ws = []) ∨
  (gdO st.loc st.vars x.guard = some true ∧ ((∃ f args ks al r, x.op = .call f args ks al ∧ FN.fn f (ks.map (·.2)) (args.map fun a => fzV (lkOf st.heap x.hide) (evO st.loc st.vars a)) r ∧
      callOk st.heap.length ks ((args.map (evO st.loc st.vars)).any (hasOwn (lkOf st.heap x.hide))) r = true ∧ p = thV (ksF ks) (genF (lkOf st.heap x.hide)) r ∧ ws = thWs (ksF ks) (genF (lkOf st.heap x.hide)) 0 (rcells r)) ∨
    (∃ f args, x.op = .callv f args ∧ FN.fi (evO st.loc st.vars f) (args.map (evO st.loc st.vars)) st.heap p ws) ∨
    ((∀ f a k al, x.op ≠ .call f a k al) ∧ (∀ f a, x.op ≠ .callv f a) ∧ (∀ f a, x.op ≠ .cally f a) ∧ aop (evO st.loc st.vars) (lkOf st.heap x.hide) x.op = some (p, ws))))
theorem res_sites {FN : FNs} {x : XOper} {st : XSt} {p : PV} {ws : List (Nat × Row)} (h : Res FN x st p ws) (hk : xkind x.op ≤ 2) : ∀ y ∈ ws, y.1 ∈ siteNos x.op := by
  rcases h with ⟨_, _, rfl⟩ | ⟨_, ⟨f, args, ks, al, r, hx, _, hok, _, rfl⟩ | ⟨f, args, hx, _⟩ | ⟨_, _, _, ha⟩⟩
  · intro y hy; simp at hy
  · intro y hy
    rw [hx]
    unfold callOk at hok
    simp only [Bool.and_eq_true] at hok
    obtain ⟨⟨⟨_, _⟩, k3⟩, _⟩ := hok
    obtain ⟨i, es, h1, h2⟩ := thWs_mem hy
    have hm := thWs_in (ks := ksF ks) (gen := fun _ => 0) (q := 0) h1
    have h3 := List.all_eq_true.1 k3 _ (List.mem_map.2 ⟨_, hm, rfl⟩)
    rw [Bool.and_eq_true] at h3
    have := List.contains_iff_mem.1 h3.2
    simp only [siteNos]
    rw [h2]
    simpa using this
  · rw [hx] at hk; simp [xkind] at hk
  · exact aop_sites hk ha
theorem res_nohide {FN : FNs} {x : XOper} {st : XSt} {p : PV} {ws : List (Nat × Row)} (h : Res FN x st p ws) (hk : isApp x.op = true) (hs : ∀ k ∈ siteNos x.op, x.hide.contains k = false) : ∀ y ∈ ws, x.hide.contains y.1 = false := by
  rcases h with ⟨_, _, rfl⟩ | ⟨_, ⟨f, args, ks, al, r, hx, _, hok, _, rfl⟩ | ⟨f, args, hx, _⟩ | ⟨_, _, _, ha⟩⟩
  · intro y hy; cases hy
  · rw [hx] at hk; simp [isApp] at hk
  · rw [hx] at hk; simp [isApp] at hk
  · exact aop_nohide hk ha hs
theorem const_kind {op : XOp} (h : quiet op = true) : xkind op = 2 := by
  cases op <;> (try (simp [quiet, constCall, isLoadV] at h; done)) <;> rfl
theorem app_kind {op : XOp} (h : isApp op = true) : xkind op = 2 ∨ xkind op = 3 := by
  cases op <;> (try (simp [isApp] at h; done))
  simp only [xkind]; split <;> simp
/-! a call's result lies at its own sites, numbered by their generations alone -/
section
variable {ks : Nat → Nat × Nat} {gen gen' : Nat → Nat}
theorem thC_congr {kz : Nat × Nat} {c : PV} (h : ∀ es, c = .uslc es → gen kz.1 = gen' kz.1) : thC kz gen c = thC kz gen' c := by
  cases c <;> simp only [thC]
  case uslc es => rw [h es rfl]
theorem thCs_congr : ∀ {cs : List PV} {p : Nat}, (∀ i es, cs[i]? = some (.uslc es) → gen (ks (p + i)).1 = gen' (ks (p + i)).1) → thCs ks gen p cs = thCs ks gen' p cs
  | [], p, _ => rfl
  | c :: cs, p, h => by
    have h1 : thC (ks p) gen c = thC (ks p) gen' c := thC_congr fun es e => h 0 es (by simp [e])
    have h2 : thCs ks gen (p + 1) cs = thCs ks gen' (p + 1) cs := thCs_congr fun i es e => by
      have := h (i + 1) es (by simpa using e)
      rwa [show p + (i + 1) = p + 1 + i by omega] at this
    simp only [thCs]
    rw [h1, h2]
theorem thComp_congr {c : PV} {p : Nat} (h : ∀ i es, (ecells c)[i]? = some (.uslc es) → gen (ks (p + i)).1 = gen' (ks (p + i)).1) : thComp ks gen p c = thComp ks gen' p c := by
  cases c
  case agg cs =>
    have h1 : thCs ks gen p cs = thCs ks gen' p cs := thCs_congr h
    simp only [thComp]; rw [h1]
  all_goals (simp only [thComp]; exact thC_congr fun es e => h 0 es (by simp [ecells, e]))
theorem thComps_congr : ∀ {vs : List PV} {p : Nat}, (∀ i es, (vs.flatMap ecells)[i]? = some (.uslc es) → gen (ks (p + i)).1 = gen' (ks (p + i)).1) → thComps ks gen p vs = thComps ks gen' p vs
  | [], p, _ => rfl
  | c :: vs, p, h => by
    simp only [thComps]
    rw [thComp_congr (gen' := gen') fun i es e => h i es ?_, thComps_congr fun i es e => ?_]
    · have := h ((ecells c).length + i) es (by rw [List.flatMap_cons, List.getElem?_append_right (by omega)]; simpa using e)
      rwa [show p + ((ecells c).length + i) = p + (ecells c).length + i by omega] at this
    · rw [List.flatMap_cons, List.getElem?_append_left (List.getElem?_eq_some_iff.1 e).1]; exact e
theorem thV_congr {r : PV} (h : ∀ i es, (rcells r)[i]? = some (.uslc es) → gen (ks i).1 = gen' (ks i).1) : thV ks gen r = thV ks gen' r := by
  have h0 : ∀ i es, ((comps r).flatMap ecells)[i]? = some (.uslc es) → gen (ks (0 + i)).1 = gen' (ks (0 + i)).1 := fun i es e => by rw [Nat.zero_add]; exact h i es e
  cases r
  case tup vs => simp only [thV]; rw [thComps_congr (by simpa [comps] using h0)]
  all_goals (simp only [thV]; exact thComp_congr (by simpa [comps] using h0))
theorem thWs_congr : ∀ {cells : List PV} {p : Nat}, (∀ i es, cells[i]? = some (.uslc es) → gen (ks (p + i)).1 = gen' (ks (p + i)).1) → thWs ks gen p cells = thWs ks gen' p cells
  | [], p, _ => rfl
  | c :: cs, p, h => by
    have hr := thWs_congr (cells := cs) (p := p + 1) fun i es e => by have := h (i + 1) es (by simpa using e); rwa [show p + (i + 1) = p + 1 + i by omega] at this
    cases c <;> simp only [thWs] <;> (try exact hr)
    case uslc es => rw [hr, show gen (ks p).1 = gen' (ks p).1 from h 0 es rfl]
end
theorem fzV_const {lk lk' : Look} {p : PV} (h : constP p = true) : fzV lk p = fzV lk' p := by
  have hc : ∀ c, (pureC c || (match c with | .nils => true | _ => false)) = true → fzC lk c = fzC lk' c := fun c hc => by
    cases c <;> first | rfl | (simp [pureC] at hc; done)
  cases p
  case agg cs =>
    simp only [fzV]
    congr 1
    exact List.map_congr_left fun c hm => hc c (List.all_eq_true.1 h c hm)
  all_goals (simp only [fzV]; refine hc _ ?_; simp only [constP, ecells, List.all_cons, List.all_nil, Bool.and_true] at h; exact h)
theorem hasOwn_const {lk : Look} {p : PV} (h : constP p = true) : hasOwn lk p = false := by
  unfold hasOwn
  rw [List.any_eq_false]
  intro c hm
  have := List.all_eq_true.1 h c hm
  cases c <;> simp [pureC, hasOwnC] at this ⊢
theorem callOk_sites {n : Nat} {ks : List (Nat × Nat)} {own : Bool} {r : PV} (h : callOk n ks own r = true) {i : Nat} {es : List PV} (hi : (rcells r)[i]? = some (.uslc es)) : (ksF ks i).1 ∈ (ks.filter (·.2 != 0)).map (·.1) := by
  unfold callOk at h
  simp only [Bool.and_eq_true] at h
  obtain ⟨⟨⟨_, _⟩, k3⟩, _⟩ := h
  have hm := thWs_in (ks := ksF ks) (gen := fun _ => 0) (q := 0) hi
  have h3 := List.all_eq_true.1 k3 _ (List.mem_map.2 ⟨_, hm, rfl⟩)
  rw [Bool.and_eq_true] at h3
  simpa using List.contains_iff_mem.1 h3.2
/-! what is written keeps its kind, but at the operation's own sites -/
theorem kill_row {lk : Look} {ks : List Nat} : ∀ y ∈ kill lk ks, y.2.2 = .dead := fun y hy => by
  obtain ⟨k, hk, rfl⟩ := List.mem_map.1 hy; rfl
theorem srcP_row {lk : Look} {m : Nat} {p : PV} {news : List PV} {ws : List (Nat × Row)} (h : srcP lk m p = some (news, ws)) : ∀ y ∈ ws, isV y.2.2 = false := by
  cases p <;> simp only [srcP] at h <;> (try (cases h; done)) <;> (try (simp only [Option.some.injEq, Prod.mk.injEq] at h; obtain ⟨_, rfl⟩ := h; intro y hy; cases hy; done))
  case own k g gl s o l =>
    split at h
    · split at h
      · split at h
        · split at h
          · split at h
            · cases h
            · simp only [Option.some.injEq, Prod.mk.injEq] at h
              obtain ⟨_, rfl⟩ := h
              intro y hy
              rw [kill_row y hy]; rfl
          · cases h
        · split at h
          · simp only [Option.some.injEq, Prod.mk.injEq] at h
            obtain ⟨_, rfl⟩ := h
            split
            · intro y hy; cases hy
            · intro y hy; simp only [List.mem_singleton] at hy; subst hy; rfl
          · cases h
      · cases h
    · cases h
  case nown k g ver i j o l =>
    (repeat' (split at h)) <;> (try (cases h; done))
    simp only [Option.some.injEq, Prod.mk.injEq] at h
    obtain ⟨_, rfl⟩ := h
    intro y hy; cases hy
theorem appP_row {lk : Look} {k sz b : Nat} {s v : PV} {news : List PV} {ws : List (Nat × Row)} (h : appP lk k sz b s news = some (v, ws)) : ∀ y ∈ ws, isV y.2.2 = false := by
  cases s <;> simp only [appP] at h <;> (try (cases h; done))
  all_goals
    (repeat' (split at h)) <;> (try (cases h; done)) <;> (simp only [Option.some.injEq, Prod.mk.injEq] at h; obtain ⟨_, rfl⟩ := h; intro y hy; simp only [List.mem_singleton] at hy; subst hy; rfl)
theorem appP_own {lk : Look} {k sz b : Nat} {s v : PV} {news : List PV} {ws : List (Nat × Row)} (h : appP lk k sz b s news = some (v, ws)) : ∀ y ∈ ws, y.1 = k ∨ isA (lk y.1).2 = true := by
  intro y hy
  have h1 := appP_keys h y hy
  cases s <;> simp only [appP] at h <;> (try (cases h; done))
  case nils => exact .inl h1
  case own k1 g gl s' o l =>
    simp only [appDst] at h1
    split at h
    · rename_i he
      rw [h1, he]; exact .inr rfl
    · cases h
theorem storeP_row {lk : Look} {sz : Nat} {a v : PV} {ws : List (Nat × Row)} (h : storeP lk sz a v = some ws) : ∀ y ∈ ws, (lk y.1).2 ≠ .dead ∧ isV y.2.2 = isV (lk y.1).2 := by
  unfold storeP at h
  split at h
  · cases a <;> (try (cases h; done))
    case ptr k g o =>
      dsimp only at h
      split at h
      · rename_i he
        split at h
        · cases h
          intro y hy; simp only [List.mem_singleton] at hy; subst hy
          rw [he]; exact ⟨by simp, rfl⟩
        · cases h
      · cases h
    case eptr k g gl s i j =>
      dsimp only at h
      split at h
      · rename_i he
        split at h
        · split at h
          · split at h
            · split at h
              · rename_i hemb
                split at h
                · cases h
                · cases h
                  intro y hy
                  rcases List.mem_append.1 hy with hy | hy
                  · have h1 := embCs_live hemb _ (kill_keys y hy)
                    exact ⟨isA_live h1, by rw [kill_row y hy, isA_var h1]; rfl⟩
                  · simp only [List.mem_singleton] at hy; subst hy
                    rw [he]; exact ⟨by simp, rfl⟩
              · cases h
            · cases h
          · cases h
        · cases h
      · cases h
    case nptr k g ver s i j m l =>
      dsimp only at h
      split at h
      · rename_i he
        split at h
        · split at h
          · split at h
            · split at h
              · split at h
                · cases h
                  intro y hy; simp only [List.mem_singleton] at hy; subst hy
                  rw [he]; exact ⟨by simp, rfl⟩
                · cases h
              · cases h
            · cases h
          · cases h
        · cases h
      · cases h
  · cases h
theorem copyP_row {lk : Look} {sz : Nat} {d p : PV} {news : List PV} {ws0 ws : List (Nat × Row)} (h : copyP lk sz d news ws0 = some (p, ws)) (h0 : ∀ y ∈ ws0, isA (lk y.1).2 = true ∧ isV y.2.2 = false) : ∀ y ∈ ws, isA (lk y.1).2 = true ∧ isV y.2.2 = false := by
  unfold copyP at h
  split at h
  · cases d <;> (try (cases h; done))
    case nils => simp only [Option.some.injEq, Prod.mk.injEq] at h; obtain ⟨_, rfl⟩ := h; exact h0
    case own k g gl s o l =>
      dsimp only at h
      split at h
      · rename_i he
        split at h
        · split at h
          · simp only [Option.some.injEq, Prod.mk.injEq] at h; obtain ⟨_, rfl⟩ := h; exact h0
          · simp only [Option.some.injEq, Prod.mk.injEq] at h; obtain ⟨_, rfl⟩ := h
            intro y hy
            rcases List.mem_append.1 hy with hy | hy
            · exact h0 y hy
            · simp only [List.mem_singleton] at hy; subst hy
              rw [he]; exact ⟨rfl, rfl⟩
        · cases h
      · cases h
  · cases h
theorem aop_row {ev : Opd → PV} {lk : Look} {op : XOp} {p : PV} {ws : List (Nat × Row)} (h : aop ev lk op = some (p, ws)) : ∀ y ∈ ws, y.1 ∈ siteNos op ∨ ((lk y.1).2 ≠ .dead ∧ isV y.2.2 = isV (lk y.1).2) := by
  have ofA : ∀ {ws : List (Nat × Row)}, (∀ y ∈ ws, isA (lk y.1).2 = true ∧ isV y.2.2 = false) → ∀ y ∈ ws, y.1 ∈ siteNos op ∨ ((lk y.1).2 ≠ .dead ∧ isV y.2.2 = isV (lk y.1).2) := fun h y hy => by
    obtain ⟨h1, h2⟩ := h y hy
    exact .inr ⟨isA_live h1, by rw [h2, isA_var h1]⟩
  by_cases hk : xkind op ≤ 2
  · exact fun y hy => .inl (aop_sites hk h y hy)
  · cases op <;> (try (simp [xkind] at hk; done)) <;> simp only [aop] at h <;> (try (cases h; done))
    case store sz a v =>
      split at h
      · rename_i ws' hs
        simp only [Option.some.injEq, Prod.mk.injEq] at h
        obtain ⟨_, rfl⟩ := h
        exact fun y hy => .inr (storeP_row hs y hy)
      · cases h
    case append k sz b m s x =>
      split at h
      · rename_i news ws1 hsrc
        split at h
        · split at h
          · rename_i v ws' hap
            simp only [Option.some.injEq, Prod.mk.injEq] at h
            obtain ⟨_, rfl⟩ := h
            intro y hy
            rcases List.mem_append.1 hy with hy | hy
            · exact ofA (fun y hy => ⟨srcP_live hsrc y hy, srcP_row hsrc y hy⟩) y hy
            · rcases appP_own hap y hy with h1 | h1
              · exact .inl (by rw [h1]; simp [siteNos])
              · exact .inr ⟨isA_live h1, by rw [appP_row hap y hy, isA_var h1]⟩
          · cases h
        · cases h
      · cases h
    case copy sz d s =>
      split at h
      · rename_i news ws1 hsrc
        exact ofA (copyP_row h fun y hy => ⟨srcP_live hsrc y hy, srcP_row hsrc y hy⟩)
      · cases h
theorem res_row {FN : FNs} {x : XOper} {st : XSt} {p : PV} {ws : List (Nat × Row)} (h : Res FN x st p ws) (hv : isCallv x.op = false) : ∀ y ∈ ws, y.1 ∈ siteNos x.op ∨ (x.hide.contains y.1 = false ∧ isV y.2.2 = isV (st.heap.getD y.1 (0, .dead)).2) := by
  have h0 := h
  rcases h with ⟨_, _, rfl⟩ | ⟨_, ⟨f, args, ks, al, r, hx, _, hok, _, rfl⟩ | ⟨f, args, hx, _⟩ | ⟨_, _, _, ha⟩⟩
  · intro y hy; cases hy
  · exact fun y hy => .inl (res_sites h0 (by rw [hx]; exact Nat.le_refl _) y hy)
  · rw [hx] at hv; cases hv
  · intro y hy
    refine (aop_row ha y hy).imp id fun ⟨h1, h2⟩ => ?_
    have h3 := lkOf_live h1
    refine ⟨h3, ?_⟩
    rw [h2]; unfold lkOf; rw [h3]; rfl
theorem upd_mem : ∀ {ws : List (Nat × Row)} {h : Heap} {k : Nat} {r : Row}, (upd h ws)[k]? = some r → (k, r) ∈ ws ∨ h[k]? = some r
  | [], h, k, r, e => .inr e
  | x :: ws, h, k, r, e => by
    rcases upd_mem (show (upd (h.set x.1 x.2) ws)[k]? = some r from e) with e | e
    · exact .inl (List.mem_cons_of_mem _ e)
    · by_cases hk : x.1 = k
      · subst hk
        by_cases hl : x.1 < h.length
        · rw [List.getElem?_set_self hl] at e
          cases e
          exact .inl List.mem_cons_self
        · rw [List.getElem?_eq_none (by simp; omega)] at e; cases e
      · rw [List.getElem?_set_ne hk] at e; exact .inr e
theorem xrun_trace {FN : FNs} {Q : XSt → Prop} : ∀ {xs : List XOper} {st : XSt}, xs.any (fun x => isCally x.op) = false → xrun FN xs st Q → ∃ (T : Nat → XSt) (p : Nat → PV) (ws : Nat → List (Nat × Row)), T 0 = st ∧ Q (T xs.length) ∧
    ∀ i x, xs[i]? = some x → Res FN x (T i) (p i) (ws i) ∧ T (i + 1) = ⟨(T i).loc ++ [p i], setO (T i).vars x.var (p i), upd (T i).heap (ws i)⟩
  | [], st, _, h => ⟨fun _ => st, fun _ => .undef, fun _ => [], rfl, h, fun i x hx => by simp at hx⟩
  | x :: xs, st, hny, h => by
    simp only [List.any_cons, Bool.or_eq_false_iff] at hny
    have hcy : ∀ f a, x.op ≠ .cally f a := fun f a e => by rw [e] at hny; cases hny.1
    have : ∃ p ws, Res FN x st p ws ∧ xrun FN xs ⟨st.loc ++ [p], setO st.vars x.var p, upd st.heap ws⟩ Q := by
      cases hg : gdO st.loc st.vars x.guard with
      | none => simp only [xrun, hg] at h
      | some c =>
        cases c with
        | false => simp only [xrun, hg] at h; exact ⟨_, [], .inl ⟨hg, rfl, rfl⟩, h⟩
        | true =>
          by_cases hcall : ∃ f b ks al', x.op = .call f b ks al'
          · obtain ⟨f, b, ks, al', hx⟩ := hcall
            simp only [xrun, hg, hx] at h
            obtain ⟨r, hF, hok, h'⟩ := h
            exact ⟨_, _, .inr ⟨hg, .inl ⟨f, b, ks, al', r, hx, hF, hok, rfl, rfl⟩⟩, h'⟩
          · by_cases hcv : ∃ f b, x.op = .callv f b
            · obtain ⟨f, b, hx⟩ := hcv
              simp only [xrun, hg, hx] at h
              obtain ⟨r, ws, hF, h'⟩ := h
              exact ⟨_, _, .inr ⟨hg, .inr (.inl ⟨f, b, hx, hF⟩)⟩, h'⟩
            · obtain ⟨p, ws, ha, h'⟩ := xrun_op (fun f b ks al' e => hcall ⟨f, b, ks, al', e⟩) (fun f b e => hcv ⟨f, b, e⟩) hcy hg h
              exact ⟨p, ws, .inr ⟨hg, .inr (.inr ⟨fun f b ks al' e => hcall ⟨f, b, ks, al', e⟩, fun f b e => hcv ⟨f, b, e⟩, hcy, ha⟩)⟩, h'⟩
    obtain ⟨p0, ws0, h0, h1⟩ := this
    obtain ⟨T, p, ws, t1, t2, t3⟩ := xrun_trace hny.2 h1
    refine ⟨fun i => match i with | 0 => st | i + 1 => T i, fun i => match i with | 0 => p0 | i + 1 => p i, fun i => match i with | 0 => ws0 | i + 1 => ws i, rfl, t2, fun i y hy => ?_⟩
    cases i with
    | zero => simp only [List.getElem?_cons_zero, Option.some.injEq] at hy; subst hy; exact ⟨h0, t1⟩
    | succ i => exact t3 i y (by simpa using hy)
/-- the last number before n with a property -/
def lastP (q : Nat → Bool) : Nat → Option Nat
  | 0 => none
  | i + 1 => if q i then some i else lastP q i
theorem lastP_some {q : Nat → Bool} : ∀ {n j : Nat}, lastP q n = some j → j < n ∧ q j = true
  | 0, j, h => by simp [lastP] at h
  | n + 1, j, h => by
    simp only [lastP] at h
    split at h
    · rename_i hq; cases h; exact ⟨by omega, hq⟩
    · obtain ⟨h1, h2⟩ := lastP_some h; exact ⟨by omega, h2⟩
theorem lastP_congr {q q' : Nat → Bool} : ∀ {n : Nat}, (∀ j, j < n → q j = q' j) → lastP q n = lastP q' n
  | 0, _ => rfl
  | n + 1, h => by simp only [lastP]; rw [h n (by omega), lastP_congr fun j hj => h j (by omega)]
theorem lastP_cut {q : Nat → Bool} {i : Nat} : ∀ {n : Nat}, i ≤ n → (∀ j, i ≤ j → j < n → q j = false) → lastP q n = lastP q i
  | 0, h, _ => by
    obtain rfl : i = 0 := (by omega)
    rfl
  | n + 1, h, hq => by
    by_cases hi : i = n + 1
    · subst hi; rfl
    · simp only [lastP]
      rw [hq n (by omega) (by omega), if_neg (by simp)]
      exact lastP_cut (by omega) fun j h1 h2 => hq j h1 (by omega)
/-- the last writer is the same, where nothing that writes there may come in another order -/
theorem last_agree {S q : Nat → Bool} {n i : Nat} (hi : i < n) (hS : S i = false) (hC : ∀ j, j < n → ((j < i ∧ S j = false) ∨ (i < j ∧ S j = true)) → q j = false) : lastP (fun j => S j && q j) n = lastP q i := by
  rw [lastP_cut (Nat.le_of_lt hi) fun j h1 h2 => ?_]
  · refine lastP_congr fun j hj => ?_
    cases hs : S j
    · rw [hC j (by omega) (.inl ⟨hj, hs⟩)]; rfl
    · rfl
  · by_cases hji : j = i
    · subst hji; rw [hS]; rfl
    · cases hs : S j
      · rfl
      · rw [hC j h2 (.inr ⟨by omega, hs⟩)]; rfl
theorem last_put {S q : Nat → Bool} {n i : Nat} (hi : i < n) (hq : q i = true) (hC : ∀ j, j < n → i < j → S j = true → q j = false) : lastP (fun j => (S j || j == i) && q j) n = some i := by
  rw [lastP_cut (i := i + 1) (by omega) fun j h1 h2 => ?_]
  · simp only [lastP]; simp [hq]
  · have hne : (j == i) = false := by simp; omega
    simp only [hne, Bool.or_false]
    cases hs : S j
    · rfl
    · rw [hC j h2 (by omega) hs]; rfl
theorem last_skip {S q : Nat → Bool} {n i : Nat} (hq : q i = false) : lastP (fun j => (S j || j == i) && q j) n = lastP (fun j => S j && q j) n := by
  refine lastP_congr fun j _ => ?_
  by_cases hji : j = i
  · subst hji; simp [hq]
  · have hne : (j == i) = false := by simpa using hji
    simp [hne]
theorem lastW_lastP {ops : List Oper} {t : Nat} : ∀ {i : Nat}, lastW ops t i = lastP (fun j => decide ((ops[j]?).bind (·.dst) = some t)) i
  | 0 => rfl
  | i + 1 => by simp only [lastW, lastP, decide_eq_true_eq]; rw [lastW_lastP]
theorem upd_key : ∀ {ws : List (Nat × Row)} {h h' : Heap} {k : Nat}, k ∈ ws.map (·.1) → h.length = h'.length → (upd h ws)[k]? = (upd h' ws)[k]?
  | [], _, _, _, hk, _ => by simp at hk
  | (k0, r) :: ws, h, h', k, hk, hl => by
    show (upd (h.set k0 r) ws)[k]? = (upd (h'.set k0 r) ws)[k]?
    by_cases hm : k ∈ ws.map (·.1)
    · exact upd_key hm (by simpa using hl)
    · have : k = k0 := by simp only [List.map_cons, List.mem_cons] at hk; exact hk.resolve_right hm
      subst this
      rw [upd_other _ _ _ hm, upd_other _ _ _ hm, List.getElem?_set_self', List.getElem?_set_self']
      by_cases hkl : k < h.length
      · rw [List.getElem?_eq_getElem hkl, List.getElem?_eq_getElem (hl ▸ hkl)]; rfl
      · rw [List.getElem?_eq_none (by omega), List.getElem?_eq_none (by omega)]
/-- the trace of a region: what lies in its locals, its variables, its objects -/
structure Trace (FN : FNs) (xs : List XOper) (vars : List PV) (h : Heap) (T : Nat → XSt) (p : Nat → PV) (ws : Nat → List (Nat × Row)) : Prop where
  t0 : T 0 = ⟨[], vars, h⟩
  st : ∀ i x, xs[i]? = some x → Res FN x (T i) (p i) (ws i) ∧ T (i + 1) = ⟨(T i).loc ++ [p i], setO (T i).vars x.var (p i), upd (T i).heap (ws i)⟩
section
variable {FN : FNs} {xs : List XOper} {vars : List PV} {h : Heap} {T : Nat → XSt} {p : Nat → PV} {ws : Nat → List (Nat × Row)}
theorem Trace.next (t : Trace FN xs vars h T p ws) {i : Nat} (hi : i < xs.length) : T (i + 1) = ⟨(T i).loc ++ [p i], setO (T i).vars (xs[i]).var (p i), upd (T i).heap (ws i)⟩ := (t.st i _ (List.getElem?_eq_getElem hi)).2
theorem Trace.loc (t : Trace FN xs vars h T p ws) : ∀ {i : Nat}, i ≤ xs.length → (T i).loc.length = i ∧ ∀ j, j < i → (T i).loc.getD j .undef = p j
  | 0, _ => by rw [t.t0]; exact ⟨rfl, fun j hj => by omega⟩
  | i + 1, hi => by
    obtain ⟨h1, h2⟩ := t.loc (i := i) (by omega)
    rw [t.next (by omega)]
    refine ⟨by simp [h1], fun j hj => ?_⟩
    by_cases hji : j = i
    · subst hji
      simp only [List.getD_eq_getElem?_getD]
      rw [List.getElem?_append_right (by omega), h1]; simp
    · have := h2 j (by omega)
      simp only [List.getD_eq_getElem?_getD] at this ⊢
      rw [List.getElem?_append_left (by omega)]; exact this
theorem Trace.len (t : Trace FN xs vars h T p ws) : ∀ {i : Nat}, i ≤ xs.length → (T i).heap.length = h.length
  | 0, _ => by rw [t.t0]
  | i + 1, hi => by rw [t.next (by omega)]; simp only [upd_length]; exact t.len (by omega)
theorem Trace.kind1 (t : Trace FN xs vars h T p ws) {i k : Nat} (hi : i < xs.length) (hv : isCallv (xs[i]).op = false) (hk : k ∉ siteNos (xs[i]).op) : isV ((T (i + 1)).heap.getD k (0, .dead)).2 = isV ((T i).heap.getD k (0, .dead)).2 := by
  rw [t.next hi]
  simp only
  have hr := res_row (t.st i _ (List.getElem?_eq_getElem hi)).1 hv
  rw [List.getD_eq_getElem?_getD]
  cases he : (upd (T i).heap (ws i))[k]? with
  | none =>
    have : (T i).heap.length ≤ k := by have := List.getElem?_eq_none_iff.1 he; rwa [upd_length] at this
    rw [List.getD_eq_getElem?_getD, List.getElem?_eq_none this]
  | some r =>
    simp only [Option.getD_some]
    rcases upd_mem he with hm | hm
    · rcases hr _ hm with h1 | ⟨_, h2⟩
      · exact absurd h1 hk
      · exact h2
    · rw [List.getD_eq_getElem?_getD, hm]; rfl
theorem Trace.kinds (t : Trace FN xs vars h T p ws) (hv : ∀ m (hm : m < xs.length), isCallv (xs[m]).op = false) {k a : Nat} : ∀ {n : Nat}, a + n ≤ xs.length → (∀ m (hm : m < xs.length), a ≤ m → m < a + n → k ∉ siteNos (xs[m]).op) → isV ((T (a + n)).heap.getD k (0, .dead)).2 = isV ((T a).heap.getD k (0, .dead)).2
  | 0, _, _ => rfl
  | n + 1, hn, hm => by
    rw [show a + (n + 1) = a + n + 1 by omega, t.kind1 (by omega) (hv _ (by omega)) (hm (a + n) (by omega) (by omega) (by omega))]
    exact t.kinds hv (by omega) fun m hl h1 h2 => hm m hl h1 (by omega)
def wr (ws : Nat → List (Nat × Row)) (k j : Nat) : Bool := ((ws j).map (·.1)).contains k
theorem Trace.heap (t : Trace FN xs vars h T p ws) (k : Nat) : ∀ {i : Nat}, i ≤ xs.length → (T i).heap[k]? = match lastP (wr ws k) i with | some j => (T (j + 1)).heap[k]? | none => h[k]?
  | 0, _ => by rw [t.t0]; rfl
  | i + 1, hi => by
    simp only [lastP]
    by_cases hw : wr ws k i = true
    · rw [if_pos hw]
    · rw [if_neg hw, ← t.heap k (i := i) (by omega), t.next (by omega)]
      exact upd_other _ _ _ fun hm => hw (List.contains_iff_mem.2 hm)
theorem Trace.vr (t : Trace FN xs vars h T p ws) {q : Nat → Bool} {k : Nat} (hq : ∀ j (hj : j < xs.length), (xs[j]).var = some k → q j = true) (hq' : ∀ j (hj : j < xs.length), q j = true → (xs[j]).var = some k) : ∀ {i : Nat}, i ≤ xs.length → (T i).vars.getD k .undef = .undef ∨ (T i).vars.getD k .undef = match lastP q i with | some j => p j | none => vars.getD k .undef
  | 0, _ => by rw [t.t0]; exact .inr rfl
  | i + 1, hi => by
    simp only [lastP]
    have hi' : i < xs.length := by omega
    rw [t.next hi']
    by_cases hv : (xs[i]).var = some k
    · rw [if_pos (hq i hi' hv), hv]
      simp only [setO, List.getD_eq_getElem?_getD]
      by_cases hl : k < (T i).vars.length
      · right; rw [List.getElem?_set_self hl]; rfl
      · left; rw [List.getElem?_eq_none (by simp; omega)]; rfl
    · rw [if_neg fun e => hv (hq' i hi' e)]
      have : (setO (T i).vars (xs[i]).var (p i)).getD k .undef = (T i).vars.getD k .undef := by
        cases hx : (xs[i]).var with
        | none => rfl
        | some k0 =>
          simp only [setO, List.getD_eq_getElem?_getD]
          rw [List.getElem?_set_ne fun e => hv (by rw [hx, e])]
      rw [this]
      exact t.vr hq hq' (by omega)
end
end
end Go.Proofs.Ytalgbgeocpbadaa.Am
