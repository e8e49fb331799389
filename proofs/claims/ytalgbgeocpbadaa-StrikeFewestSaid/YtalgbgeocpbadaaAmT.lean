/-
  .. one operation of such a region.
-/
import Derived.Test.YtalgbgeocpbadaaAmS
namespace Go.Proofs.Ytalgbgeocpbadaa.Am
set_option linter.unusedSimpArgs false
set_option linter.unusedVariables false
set_option linter.unusedSectionVars false
open Go.RowKit
def dq (ops : List Oper) (t : Nat) (j : Nat) : Bool := decide ((ops[j]?).bind (·.dst) = some t)
/-- what holds when the operations of S are done -/
structure SRel (P : Program) (B : Nat) (Z0 : Nat → Prop) (W0 : Anch B) (vs : List Nat) (N : Nat) (ops : List Oper) (vars : List PV) (h : Heap) (T : Nat → XSt) (p : Nat → PV) (ws : Nat → List (Nat × Row)) (S : Nat → Bool) (G : Gh) (hS : Heap) (a : Act) (w : World) : Prop where
  hr : HRep B Z0 G hS w
  len : hS.length = h.length
  hp : ∀ k : Nat, hS[k]? = match lastP (fun j => S j && wr ws k j) ops.length with | some j => (T (j + 1)).heap[k]? | none => h[k]?
  slw : ∀ t j, lastP (fun j => S j && dq ops t j) ops.length = some j → ∃ v, a.tmps[t]? = some v ∧ VRep G hS w D v (p j)
  sl0 : ∀ t, lastP (fun j => S j && dq ops t j) ops.length = none → ∀ k, vs[k]? = some t → ∃ v, a.tmps[t]? = some v ∧ VRep G hS w D v (vars.getD k .undef)
  sz : a.tmps.size = N
  df : DefOk W0.m a.defers w
  be : W0.psi (gho vs vars) G hS w
section
variable {P : Program} {B : Nat} {Z0 : Nat → Prop} {W0 : Anch B} {vs : List Nat} {N : Nat} {ops : List Oper} {xs : List XOper} {vars : List PV} {h : Heap} {T : Nat → XSt} {p : Nat → PV} {ws : Nat → List (Nat × Row)} {S : Nat → Bool} {G G' : Gh} {hS : Heap} {a : Act} {w w' : World}
/-- S lacks i, and holds whatever waits less -/
structure Next (ops : List Oper) (S : Nat → Bool) (i : Nat) : Prop where
  lt : i < ops.length
  out : S i = false
  down : ∀ j k, S j = true → j < ops.length → ((waitL [] ops).getD j 0).testBit k = true → S k = true
  mine : ∀ k, ((waitL [] ops).getD i 0).testBit k = true → S k = true
theorem Next.conf {i : Nat} (n : Next ops S i) {j : Nat} (hj : j < ops.length) (h : (j < i ∧ S j = false) ∨ (i < j ∧ S j = true)) : unord (waitL [] ops) i j = true := by
  unfold unord
  rcases h with ⟨h1, h2⟩ | ⟨h1, h2⟩
  · rw [if_pos h1]
    cases hb : ((waitL [] ops).getD i 0).testBit j
    · rfl
    · have := n.mine j hb; rw [h2] at this; cases this
  · rw [if_neg (by omega), if_pos h1]
    cases hb : ((waitL [] ops).getD j 0).testBit i
    · rfl
    · have := n.down j i h2 hj hb; rw [n.out] at this; cases this
theorem dq_iff {t j : Nat} {o : Oper} (ho : ops[j]? = some o) : dq ops t j = true ↔ o.dst = some t := by
  unfold dq; rw [ho]; simp
/-- the slots that an operation looks at hold what they would in the text's order -/
theorem look_agree (d : Drawn P vs N ops xs) {i : Nat} (n : Next ops S i) {o : Oper} (ho : ops[i]? = some o) {t : Nat} (ht : t ∈ o.looksAt ops.toArray) : lastP (fun j => S j && dq ops t j) ops.length = lastW ops t i := by
  rw [lastW_lastP]
  refine last_agree n.lt n.out fun j hj hc => ?_
  obtain ⟨x, hx, _⟩ := d.ok i o ho
  obtain ⟨b, hb⟩ : ∃ b, ops[j]? = some b := ⟨_, List.getElem?_eq_getElem hj⟩
  obtain ⟨y, hy, _⟩ := d.ok j b hb
  obtain ⟨h1, h2, _, _⟩ := d.un i j x y o b hx hy ho hb (n.conf hj hc)
  have := (Oper.apart_spec h2).1
  show dq ops t j = false
  cases hq : dq ops t j
  · rfl
  · exact absurd ht (this t ((dq_iff hb).1 hq))
theorem reads_look {o : Oper} {t : Nat} (h : t ∈ readsOf o) : t ∈ o.looksAt ops.toArray := List.mem_append_left _ h
theorem rd_drawn (d : Drawn P vs N ops xs) (tr : Trace (fns P) xs vars h T p ws) (r : SRel P B Z0 W0 vs N ops vars h T p ws S G hS a w) {i : Nat} (n : Next ops S i) {o : Oper} (ho : ops[i]? = some o) {t : Nat} (ht : t ∈ o.looksAt ops.toArray) {dd : Opd} (hd : rdOp vs ops i (.tmp t) = some dd) :
    ∃ v, a.tmps[t]? = some v ∧ VRep G hS w D v (evO (T i).loc (T i).vars dd) := by
  have hag := look_agree d n ho ht
  simp only [rdOp] at hd
  split at hd
  · rename_i j hj
    cases hd
    rw [hj] at hag
    obtain ⟨v, h1, h2⟩ := r.slw t j hag
    refine ⟨v, h1, ?_⟩
    have hji := (lastW_lt hj).1
    have := (tr.loc (i := i) (by rw [d.len]; exact Nat.le_of_lt n.lt)).2 j hji
    simp only [evO]
    rw [this]; exact h2
  · rename_i hj
    obtain ⟨k, h1, rfl⟩ := Option.map_eq_some_iff.1 hd
    rw [hj] at hag
    obtain ⟨v, h2, h3⟩ := r.sl0 t hag k (idx_get h1)
    refine ⟨v, h2, ?_⟩
    have hvar : ∀ j (hjl : j < xs.length), ∃ b, ops[j]? = some b ∧ (xs[j]).var = b.dst.bind (vs.idxOf? ·) := fun j hjl => by
      obtain ⟨x, hx, hok⟩ := d.ok j _ (List.getElem?_eq_getElem (d.len ▸ hjl))
      rw [List.getElem?_eq_getElem hjl] at hx
      cases hx
      exact ⟨_, List.getElem?_eq_getElem (d.len ▸ hjl), hok.var⟩
    have hq1 : ∀ j (hjl : j < xs.length), (xs[j]).var = some k → dq ops t j = true := fun j hjl hv => by
      obtain ⟨b, hb, hb2⟩ := hvar j hjl
      rw [hb2] at hv
      obtain ⟨t', h5, h6⟩ := Option.bind_eq_some_iff.1 hv
      have : t' = t := Option.some.inj ((idx_get h6).symm.trans (idx_get h1))
      subst this
      exact (dq_iff hb).2 h5
    have hq2 : ∀ j (hjl : j < xs.length), dq ops t j = true → (xs[j]).var = some k := fun j hjl hq => by
      obtain ⟨b, hb, hb2⟩ := hvar j hjl
      rw [hb2, (dq_iff hb).1 hq]
      exact h1
    rcases tr.vr hq1 hq2 (i := i) (by rw [d.len]; exact Nat.le_of_lt n.lt) with h4 | h4
    · simp only [evO]; rw [h4]; exact mk_undef
    · rw [show lastP (dq ops t) i = none by rw [← hj, lastW_lastP]; rfl] at h4
      simp only [evO]; rw [h4]; exact h3
theorem rd_all (d : Drawn P vs N ops xs) (tr : Trace (fns P) xs vars h T p ws) (r : SRel P B Z0 W0 vs N ops vars h T p ws S G hS a w) {i : Nat} (n : Next ops S i) {o : Oper} (ho : ops[i]? = some o) :
    ∀ x dd, rdIn o (rdOp vs ops i) x = some dd → VRep G hS w D (a.eval x) (evO (T i).loc (T i).vars dd) := by
  intro x dd hx
  obtain ⟨h1, h2⟩ := rdIn_some hx
  cases x with
  | tmp t =>
    obtain ⟨v, h3, h4⟩ := rd_drawn d tr r n ho (reads_look (h2 t rfl)) h1
    have : a.eval (.tmp t) = v := by simp [Act.eval, h3]
    rw [this]; exact h4
  | const v =>
    simp only [rdOp] at h1
    obtain ⟨q, h3, rfl⟩ := Option.map_eq_some_iff.1 h1
    exact const_rep h3
  | func f =>
    simp only [rdOp] at h1
    cases h1
    show VRep G hS w D (.func (.func f) #[] #[]) (.fn (.func f) [] [])
    unfold D; unfold VRep
    exact ⟨_, _, rfl, ⟨rfl, fun i c hc => by simp at hc⟩, ⟨rfl, fun i c hc => by simp at hc⟩⟩
  | global g => simp [rdOp] at h1
/-- the objects that an operation looks at are those of the text's order -/
theorem lk_drawn (d : Drawn P vs N ops xs) (tr : Trace (fns P) xs vars h T p ws) (r : SRel P B Z0 W0 vs N ops vars h T p ws S G hS a w) {i : Nat} (n : Next ops S i) {x : XOper} (hx : xs[i]? = some x) (hk : xkind x.op ≠ 0) (hnc : quiet x.op = false) :
    lkOf hS x.hide = lkOf (T i).heap x.hide := by
  funext k
  unfold lkOf
  split
  · rfl
  · rename_i hnh
    have hlast : lastP (fun j => S j && wr ws k j) ops.length = lastP (wr ws k) i := by
      refine last_agree n.lt n.out fun j hj hc => ?_
      obtain ⟨y, hy⟩ : ∃ y, xs[j]? = some y := ⟨_, List.getElem?_eq_getElem (by rw [d.len]; exact hj)⟩
      obtain ⟨_, _, h3, h4⟩ := d.un i j x y _ _ hx hy (List.getElem?_eq_getElem n.lt) (List.getElem?_eq_getElem hj) (n.conf hj hc)
      have hk2 : xkind y.op ≤ 2 := by
        unfold okPair at h3
        simp only [Bool.or_eq_true, Bool.and_eq_true, decide_eq_true_eq, beq_iff_eq] at h3
        rcases h3 with (((h3 | h3) | h3) | h3) | h3
        · omega
        · omega
        · exact h3.2
        · rw [const_kind h3.2]; exact Nat.le_refl _
        · rw [hnc] at h3; cases h3.1
      cases hw : wr ws k j
      · rfl
      · exfalso
        obtain ⟨z, hz1, hz2⟩ := List.mem_map.1 (List.contains_iff_mem.1 hw)
        have := h4 _ (res_sites (tr.st j y hy).1 hk2 z hz1)
        rw [hz2] at this
        exact hnh (List.contains_iff_mem.2 this)
    rw [List.getD_eq_getElem?_getD, List.getD_eq_getElem?_getD, r.hp k, tr.heap k (i := i) (by rw [d.len]; exact Nat.le_of_lt n.lt), hlast]
    rfl
/-- an operation's own sites are as in the text's order -/
theorem site_drawn (d : Drawn P vs N ops xs) (tr : Trace (fns P) xs vars h T p ws) (hsi : sitesIn h.length xs = true) (r : SRel P B Z0 W0 vs N ops vars h T p ws S G hS a w) {i : Nat} (n : Next ops S i) {x : XOper} (hx : xs[i]? = some x) (hk : xkind x.op = 2) {k : Nat} (hks : k ∈ siteNos x.op) :
    lkOf hS x.hide k = lkOf (T i).heap x.hide k := by
  have hsite : ∀ {i : Nat} {x : XOper}, xs[i]? = some x → ∀ k ∈ siteNos x.op, x.hide.contains k = false := fun hx k hk => by
    have := List.all_eq_true.1 (List.all_eq_true.1 hsi _ (List.mem_of_getElem? hx)) _ hk
    simp only [Bool.and_eq_true, Bool.not_eq_true'] at this
    exact this.2
  unfold lkOf
  split
  · rfl
  · have hlast : lastP (fun j => S j && wr ws k j) ops.length = lastP (wr ws k) i := by
      refine last_agree n.lt n.out fun j hj hc => ?_
      obtain ⟨y, hy⟩ : ∃ y, xs[j]? = some y := ⟨_, List.getElem?_eq_getElem (by rw [d.len]; exact hj)⟩
      obtain ⟨_, _, h3, h4⟩ := d.un i j x y _ _ hx hy (List.getElem?_eq_getElem n.lt) (List.getElem?_eq_getElem hj) (n.conf hj hc)
      obtain ⟨_, _, _, h5⟩ := d.un j i y x _ _ hy hx (List.getElem?_eq_getElem hj) (List.getElem?_eq_getElem n.lt) (unord_symm (n.conf hj hc))
      cases hw : wr ws k j
      · rfl
      · exfalso
        obtain ⟨z, hz1, hz2⟩ := List.mem_map.1 (List.contains_iff_mem.1 hw)
        by_cases hk2 : xkind y.op ≤ 2
        · have := h4 _ (res_sites (tr.st j y hy).1 hk2 z hz1)
          rw [hz2] at this
          have h6 := hsite hx k hks
          rw [List.contains_iff_mem.2 this] at h6; cases h6
        · have happ : isApp y.op = true := by
            unfold okPair at h3
            simp only [Bool.or_eq_true, Bool.and_eq_true, decide_eq_true_eq, beq_iff_eq] at h3
            rcases h3 with (((h3 | h3) | h3) | h3) | h3
            · omega
            · omega
            · omega
            · have := const_kind h3.2; omega
            · exact h3.2
          have := res_nohide (tr.st j y hy).1 happ (hsite hy) z hz1
          rw [hz2, List.contains_iff_mem.2 (h5 k hks)] at this; cases this
    rw [List.getD_eq_getElem?_getD, List.getD_eq_getElem?_getD, r.hp k, tr.heap k (i := i) (by rw [d.len]; exact Nat.le_of_lt n.lt), hlast]
    rfl
/-- a variable's row is none that an append in another order writes -/
theorem var_drawn (d : Drawn P vs N ops xs) (tr : Trace (fns P) xs vars h T p ws) {i j : Nat} {x y : XOper} (hx : xs[i]? = some x) (hy : xs[j]? = some y) (hxl : isLoadV x.op = true) (hya : isApp y.op = true) (hu : unord (waitL [] ops) i j = true) {k : Nat} (hv : isV (lkOf (T i).heap x.hide k).2 = true) : wr ws k j = false := by
  have hil : i < xs.length := (List.getElem?_eq_some_iff.1 hx).1
  have hjl : j < xs.length := (List.getElem?_eq_some_iff.1 hy).1
  have hio : i < ops.length := by rw [← d.len]; exact hil
  have hjo : j < ops.length := by rw [← d.len]; exact hjl
  have hnh : x.hide.contains k = false := by
    unfold lkOf at hv
    cases hc : x.hide.contains k
    · rfl
    · rw [hc] at hv; cases hv
  have hv' : isV ((T i).heap.getD k (0, .dead)).2 = true := by unfold lkOf at hv; rw [hnh] at hv; exact hv
  obtain ⟨_, _, _, h4⟩ := d.un i j x y _ _ hx hy (List.getElem?_eq_getElem hio) (List.getElem?_eq_getElem hjo) hu
  cases hw : wr ws k j
  · rfl
  · exfalso
    obtain ⟨z, hz1, hz2⟩ := List.mem_map.1 (List.contains_iff_mem.1 hw)
    have hks : k ∉ siteNos y.op := fun hk => by
      have := h4 k hk
      rw [List.contains_iff_mem.2 this] at hnh; cases hnh
    rcases res_row (tr.st j y hy).1 (d.cv i j x y hx hy hxl) z hz1 with h1 | ⟨h1, h2⟩
    · rw [hz2] at h1; exact hks h1
    · rw [hz2] at h1 h2
      have hnv : isV z.2.2 = false := by
        rcases (tr.st j y hy).1 with ⟨_, _, hw0⟩ | ⟨_, ⟨f, args, ks, al, r, hyo, _⟩ | ⟨f, args, hyo, _⟩ | ⟨_, _, _, ha⟩⟩
        · rw [hw0] at hz1; cases hz1
        · rw [hyo] at hya; cases hya
        · rw [hyo] at hya; cases hya
        · cases hop : y.op <;> (try (rw [hop] at hya; cases hya; done))
          case append k0 sz b m s xx =>
            rw [hop] at ha
            simp only [aop] at ha
            split at ha
            · rename_i news ws1 hsrc
              split at ha
              · split at ha
                · rename_i v ws' hap
                  simp only [Option.some.injEq, Prod.mk.injEq] at ha
                  obtain ⟨_, ha⟩ := ha
                  rw [← ha] at hz1
                  rcases List.mem_append.1 hz1 with hz1 | hz1
                  · exact srcP_row hsrc z hz1
                  · exact appP_row hap z hz1
                · cases ha
              · cases ha
            · cases ha
      rw [hnv] at h2
      -- somebody in between makes an object there
      have hmid : ∀ a b, a < b → b < xs.length → isV ((T b).heap.getD k (0, .dead)).2 ≠ isV ((T a).heap.getD k (0, .dead)).2 → ∃ m, ∃ hm : m < xs.length, a ≤ m ∧ m < b ∧ k ∈ siteNos (xs[m]).op := fun a b hab hb hne => by
        apply Classical.byContradiction
        intro hno
        refine hne ?_
        have := tr.kinds (fun m hm => d.cv i m x _ hx (List.getElem?_eq_getElem hm) hxl) (k := k) (a := a) (n := b - a) (by omega) fun m hm h1 h2 hk => hno ⟨m, hm, h1, by omega, hk⟩
        rwa [show a + (b - a) = b by omega] at this
      have hnoV : siteNos x.op = [] := by cases hop : x.op <;> (try (rw [hop] at hxl; cases hxl; done)) <;> rfl
      have hord : ∀ {q : Nat} {z : XOper} (hq : xs[q]? = some z) (hc : z.hide.contains k = false) {m : Nat} (hm : m < xs.length), k ∈ siteNos (xs[m]).op → unord (waitL [] ops) q m = false := fun {q z} hq hc {m} hm hk => by
        cases hu2 : unord (waitL [] ops) q m
        · rfl
        · have hql : q < ops.length := by rw [← d.len]; exact (List.getElem?_eq_some_iff.1 hq).1
          obtain ⟨_, _, _, h5⟩ := d.un q m z _ _ _ hq (List.getElem?_eq_getElem hm) (List.getElem?_eq_getElem hql) (List.getElem?_eq_getElem (by rw [← d.len]; exact hm)) hu2
          rw [List.contains_iff_mem.2 (h5 k hk)] at hc; cases hc
      have hne : i ≠ j := fun e => by subst e; simp [unord] at hu
      have hwt : ∀ {a b : Nat}, a < b → unord (waitL [] ops) a b = false → ((waitL [] ops).getD b 0).testBit a = true := fun {a b} hab h => by
        unfold unord at h
        rw [if_neg (by omega), if_pos hab] at h
        simpa using h
      rcases Nat.lt_or_gt_of_ne hne with hlt | hgt
      · obtain ⟨m, hm, m1, m2, hk⟩ := hmid i j hlt hjl (by rw [← h2, hv']; simp)
        have hmi : i ≠ m := fun e => by subst e; rw [List.getElem?_eq_getElem hm] at hx; cases hx; rw [hnoV] at hk; cases hk
        have u1 := hwt (show i < m by omega) (hord hx hnh hm hk)
        have u2 := hord hy h1 hm hk
        rw [show unord (waitL [] ops) j m = unord (waitL [] ops) m j from by
          cases hq : unord (waitL [] ops) m j
          · cases hq2 : unord (waitL [] ops) j m
            · rfl
            · rw [unord_symm hq2] at hq; cases hq
          · exact unord_symm hq] at u2
        have u3 := wait_trans u1 j hjo (hwt m2 u2)
        unfold unord at hu
        rw [if_neg (by omega), if_pos hlt, u3] at hu
        cases hu
      · obtain ⟨m, hm, m1, m2, hk⟩ := hmid j i hgt hil (by rw [← h2, hv']; simp)
        have hmj : j ≠ m := fun e => by subst e; rw [List.getElem?_eq_getElem hm] at hy; cases hy; exact hks hk
        have u1 := hwt (show j < m by omega) (hord hy h1 hm hk)
        have u2 := hord hx hnh hm hk
        rw [show unord (waitL [] ops) i m = unord (waitL [] ops) m i from by
          cases hq : unord (waitL [] ops) m i
          · cases hq2 : unord (waitL [] ops) i m
            · rfl
            · rw [unord_symm hq2] at hq; cases hq
          · exact unord_symm hq] at u2
        have u3 := wait_trans u1 i hio (hwt m2 u2)
        unfold unord at hu
        rw [if_pos hgt, u3] at hu
        cases hu
/-- a variable is read as in the text's order -/
theorem loadV_drawn (d : Drawn P vs N ops xs) (tr : Trace (fns P) xs vars h T p ws) (r : SRel P B Z0 W0 vs N ops vars h T p ws S G hS a w) {i : Nat} (n : Next ops S i) {x : XOper} (hx : xs[i]? = some x) (hl : isLoadV x.op = true) {q : PV} {us : List (Nat × Row)} (ha : aop (evO (T i).loc (T i).vars) (lkOf (T i).heap x.hide) x.op = some (q, us)) :
    aop (evO (T i).loc (T i).vars) (lkOf hS x.hide) x.op = some (q, us) := by
  cases hop : x.op <;> (try (rw [hop] at hl; cases hl; done))
  case loadV agg sz a =>
    rw [hop] at ha
    simp only [aop] at ha ⊢
    cases hev : evO (T i).loc (T i).vars a <;> (try (rw [hev] at ha; cases ha; done))
    case ptr k g o =>
      rw [hev] at ha
      have hv : isV (lkOf (T i).heap x.hide k).2 = true := by
        simp only [loadP] at ha
        cases hk : lkOf (T i).heap x.hide k with
        | mk g' ob => cases ob <;> rw [hk] at ha <;> first | rfl | (cases ha; done)
      have hrow : lkOf hS x.hide k = lkOf (T i).heap x.hide k := by
        unfold lkOf
        split
        · rfl
        · rename_i hnh
          have hlast : lastP (fun j => S j && wr ws k j) ops.length = lastP (wr ws k) i := by
            refine last_agree n.lt n.out fun j hj hc => ?_
            obtain ⟨y, hy⟩ : ∃ y, xs[j]? = some y := ⟨_, List.getElem?_eq_getElem (by rw [d.len]; exact hj)⟩
            obtain ⟨_, _, h3, h4⟩ := d.un i j x y _ _ hx hy (List.getElem?_eq_getElem n.lt) (List.getElem?_eq_getElem hj) (n.conf hj hc)
            by_cases hk2 : xkind y.op ≤ 2
            · cases hw : wr ws k j
              · rfl
              · exfalso
                obtain ⟨z, hz1, hz2⟩ := List.mem_map.1 (List.contains_iff_mem.1 hw)
                have := h4 _ (res_sites (tr.st j y hy).1 hk2 z hz1)
                rw [hz2] at this
                exact hnh (List.contains_iff_mem.2 this)
            · refine var_drawn d tr hx hy hl ?_ (n.conf hj hc) hv
              unfold okPair at h3
              simp only [Bool.or_eq_true, Bool.and_eq_true, decide_eq_true_eq, beq_iff_eq] at h3
              rcases h3 with (((h3 | h3) | h3) | h3) | h3
              · rw [hop] at h3; cases h3
              · omega
              · omega
              · have := const_kind h3.2; omega
              · exact h3.2
          rw [List.getD_eq_getElem?_getD, List.getD_eq_getElem?_getD, r.hp k, tr.heap k (i := i) (by rw [d.len]; exact Nat.le_of_lt n.lt), hlast]
          rfl
      simp only [loadP] at ha ⊢
      rw [hrow]; exact ha
/-- ONE MORE OPERATION IS DONE -/
theorem srel_put (hn : vs.Nodup) (d : Drawn P vs N ops xs) (tr : Trace (fns P) xs vars h T p ws) (hsi : sitesIn h.length xs = true) (r : SRel P B Z0 W0 vs N ops vars h T p ws S G hS a w) {i : Nat} (n : Next ops S i) {o : Oper} (ho : ops[i]? = some o) {v : Value}
    (hr' : HRep B Z0 G' (upd hS (ws i)) w') (x : Ext G hS w G' (upd hS (ws i)) w') (hv : VRep G' (upd hS (ws i)) w' D v (p i)) (hb : Bl B w w') :
    SRel P B Z0 W0 vs N ops vars h T p ws (fun j => S j || j == i) G' (upd hS (ws i)) (a.put o.dst v) w' := by
  obtain ⟨xo, hxo, hok⟩ := d.ok i o ho
  have hd : ∀ t, o.dst = some t → t < a.tmps.size := fun t ht => by rw [r.sz]; exact hok.dst t ht
  have hconf : ∀ j, j < ops.length → i < j → S j = true → ∃ b y, ops[j]? = some b ∧ xs[j]? = some y ∧ o.apart ops.toArray b = true ∧ b.apart ops.toArray o = true ∧ okPair xo y = true ∧ (∀ k ∈ siteNos y.op, k ∈ xo.hide) ∧ ∀ k ∈ siteNos xo.op, k ∈ y.hide := fun j hj hij hs => by
    obtain ⟨b, hb⟩ : ∃ b, ops[j]? = some b := ⟨_, List.getElem?_eq_getElem hj⟩
    obtain ⟨y, hy, _⟩ := d.ok j b hb
    obtain ⟨h1, h2, h3, h4⟩ := d.un i j xo y o b hxo hy ho hb (n.conf hj (.inr ⟨hij, hs⟩))
    obtain ⟨_, _, _, h5⟩ := d.un j i y xo b o hy hxo hb ho (unord_symm (n.conf hj (.inr ⟨hij, hs⟩)))
    exact ⟨b, y, hb, hy, h1, h2, h3, h4, h5⟩
  have hsite : ∀ {i : Nat} {x : XOper}, xs[i]? = some x → ∀ k ∈ siteNos x.op, x.hide.contains k = false := fun hx k hk => by
    have := List.all_eq_true.1 (List.all_eq_true.1 hsi _ (List.mem_of_getElem? hx)) _ hk
    simp only [Bool.and_eq_true, Bool.not_eq_true'] at this
    exact this.2
  -- who wrote a slot last
  have hslot : ∀ t, o.dst = some t → lastP (fun j => (S j || j == i) && dq ops t j) ops.length = some i := fun t ht =>
    last_put n.lt ((dq_iff ho).2 ht) fun j hj hij hs => by
      obtain ⟨b, y, hb, _, h1, _⟩ := hconf j hj hij hs
      cases hq : dq ops t j
      · rfl
      · exact absurd ((dq_iff hb).1 hq) ((Oper.apart_spec h1).2.1 t ht)
  have hslot' : ∀ t, o.dst ≠ some t → lastP (fun j => (S j || j == i) && dq ops t j) ops.length = lastP (fun j => S j && dq ops t j) ops.length := fun t ht =>
    last_skip (by cases hq : dq ops t i; rfl; exact absurd ((dq_iff ho).1 hq) ht)
  refine ⟨hr', by rw [upd_length]; exact r.len, fun k => ?_, fun t j hj => ?_, fun t hj k hk => ?_, by rw [put_size]; exact r.sz, by rw [put_def]; exact r.df.step hb, W0.step r.be x hb⟩
  · by_cases hw : wr ws k i = true
    · have hlast : lastP (fun j => (S j || j == i) && wr ws k j) ops.length = some i := last_put n.lt hw fun j hj hij hs => by
        obtain ⟨b, y, hb, hy, h1, h2, h3, h4, h5⟩ := hconf j hj hij hs
        cases hq : wr ws k j
        · rfl
        · exfalso
          obtain ⟨z, hz1, hz2⟩ := List.mem_map.1 (List.contains_iff_mem.1 hw)
          obtain ⟨z', hz1', hz2'⟩ := List.mem_map.1 (List.contains_iff_mem.1 hq)
          unfold okPair at h3
          simp only [Bool.or_eq_true, Bool.and_eq_true, decide_eq_true_eq, beq_iff_eq] at h3
          rcases h3 with (h3 | ⟨h3, h3'⟩) | ⟨h3, h3'⟩
          case inl.inr =>
            have := res_nohide (tr.st i xo hxo).1 h3 (hsite hxo) z hz1
            have h6 := h4 _ (res_sites (tr.st j y hy).1 (by rw [const_kind h3']; exact Nat.le_refl _) z' hz1')
            rw [hz2, ← hz2', List.contains_iff_mem.2 h6] at this; cases this
          case inr =>
            have := res_nohide (tr.st j y hy).1 h3' (hsite hy) z' hz1'
            have h6 := h5 _ (res_sites (tr.st i xo hxo).1 (by rw [const_kind h3]; exact Nat.le_refl _) z hz1)
            rw [hz2', ← hz2, List.contains_iff_mem.2 h6] at this; cases this
          have hx2 : xkind xo.op ≤ 2 ∨ xkind y.op = 0 := by omega
          rcases hx2 with hx2 | hx2
          · have h5 := res_sites (tr.st i xo hxo).1 hx2 z hz1
            have hy2 : xkind y.op ≤ 2 := by
              rcases h3 with (h3 | h3) | h3
              · rw [kind0_sites h3] at h5; simp at h5
              · omega
              · exact h3.2
            have h6 := h4 _ (res_sites (tr.st j y hy).1 hy2 z' hz1')
            have h7 := List.all_eq_true.1 (List.all_eq_true.1 hsi xo (List.mem_of_getElem? hxo)) _ h5
            rw [Bool.and_eq_true] at h7
            have h8 : xo.hide.contains z.1 = true := List.contains_iff_mem.2 (by rw [hz2, ← hz2']; exact h6)
            rw [h8] at h7; simp at h7
          · have h5 := res_sites (tr.st j y hy).1 (by omega) z' hz1'
            rw [kind0_sites hx2] at h5; simp at h5
      rw [hlast]
      simp only
      rw [(tr.st i xo hxo).2]
      exact upd_key (List.contains_iff_mem.1 hw) (by rw [r.len, tr.len (by rw [d.len]; exact Nat.le_of_lt n.lt)])
    · rw [last_skip (by simpa using hw), ← r.hp k]
      exact upd_other _ _ _ fun hm => hw (List.contains_iff_mem.2 hm)
  · by_cases ht : o.dst = some t
    · rw [hslot t ht] at hj
      cases hj
      rw [ht]
      exact ⟨v, put_self (hd t ht), hv⟩
    · rw [hslot' t ht] at hj
      obtain ⟨u, h1, h2⟩ := r.slw t j hj
      exact ⟨u, by rw [put_get ht]; exact h1, h2.ext x⟩
  · by_cases ht : o.dst = some t
    · rw [hslot t ht] at hj; cases hj
    · rw [hslot' t ht] at hj
      obtain ⟨u, h1, h2⟩ := r.sl0 t hj k hk
      exact ⟨u, by rw [put_get ht]; exact h1, h2.ext x⟩
end
end Go.Proofs.Ytalgbgeocpbadaa.Am
