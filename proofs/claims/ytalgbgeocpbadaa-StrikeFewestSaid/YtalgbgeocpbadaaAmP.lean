/-
  Statements: the operations of a region in the order of the text.
-/
import Derived.Test.YtalgbgeocpbadaaAmO
namespace Go.Proofs.Ytalgbgeocpbadaa.Am
set_option linter.unusedSimpArgs false
set_option linter.unusedVariables false
set_option linter.unusedSectionVars false
open Go.RowKit
section
variable {P : Program} {B : Nat} {Z0 : Nat → Prop} {G G' : Gh} {h h' : Heap} {w w' : World}
theorem callsIn_fz {ρ : Option Nat} {n : Nat} {f : FuncId} {args : Array Value} {R : Ending → World → Prop} : CallsIn (fz ρ) n P f args w R ↔ Calls P f args w R := callsIn_wide
/-- the variables in their slots -/
def VarsR (G : Gh) (h : Heap) (w : World) (vs : List Nat) (vars : List PV) (a : Act) : Prop := ∀ (k s : Nat), vs[k]? = some s → ∃ v, a.tmps[s]? = some v ∧ VRep G h w D v (vars.getD k .undef)
/-- what the operations before i have left in their slots -/
def LocR (G : Gh) (h : Heap) (w : World) (ops : List Oper) (i : Nat) (loc : List PV) (a : Act) : Prop := ∀ (t j : Nat), lastW ops t i = some j → ∃ v, a.tmps[t]? = some v ∧ VRep G h w D v (loc.getD j .undef)
theorem lastW_lt {ops : List Oper} {t : Nat} : ∀ {i j : Nat}, lastW ops t i = some j → j < i ∧ (ops[j]?).bind (·.dst) = some t
  | 0, j, h => by simp [lastW] at h
  | i + 1, j, h => by
    simp only [lastW] at h
    split at h
    · rename_i hd; cases h; exact ⟨by omega, hd⟩
    · obtain ⟨h1, h2⟩ := lastW_lt h; exact ⟨by omega, h2⟩
theorem const_rep {v : Value} {p : PV} (hk : ofV v = some p) : VRep G h w D v p := (ofV_rep hk).1
theorem rd_rep {vs : List Nat} {ops : List Oper} {i : Nat} {loc vars : List PV} {a : Act} (hv : VarsR G h w vs vars a) (hl : LocR G h w ops i loc a) : ∀ x d, rdOp vs ops i x = some d → VRep G h w D (a.eval x) (evO loc vars d) := by
  intro x d hd
  cases x with
  | tmp t =>
    simp only [rdOp] at hd
    split at hd
    · rename_i j hj
      cases hd
      obtain ⟨v, h1, h2⟩ := hl t j hj
      have : a.eval (.tmp t) = v := by simp [Act.eval, h1]
      rw [this]; exact h2
    · obtain ⟨k, h1, rfl⟩ := Option.map_eq_some_iff.1 hd
      have hk : vs[k]? = some t := by
        obtain ⟨h2, h3, _⟩ := List.idxOf?_eq_some_iff.1 h1
        rw [← h3]; exact List.getElem?_eq_getElem h2
      obtain ⟨v, h2, h3⟩ := hv k t hk
      have : a.eval (.tmp t) = v := by simp [Act.eval, h2]
      rw [this]; exact h3
  | const v =>
    simp only [rdOp] at hd
    obtain ⟨p, h1, rfl⟩ := Option.map_eq_some_iff.1 hd
    exact const_rep h1
  | func f =>
    simp only [rdOp] at hd
    cases hd
    show VRep G h w D (.func (.func f) #[] #[]) (.fn (.func f) [] [])
    unfold D; unfold VRep
    exact ⟨_, _, rfl, ⟨rfl, fun i c hc => by simp at hc⟩, ⟨rfl, fun i c hc => by simp at hc⟩⟩
  | global g => simp [rdOp] at hd
theorem rdIn_some {o : Oper} {rd : Operand → Option Opd} {x : Operand} {d : Opd} (h : rdIn o rd x = some d) : rd x = some d ∧ ∀ t, x = .tmp t → t ∈ readsOf o := by
  cases x <;> simp only [rdIn] at h
  case tmp t =>
    split at h
    · rename_i hc; exact ⟨h, fun t' e => by cases e; exact List.contains_iff_mem.1 hc⟩
    · cases h
  all_goals exact ⟨h, fun t e => by cases e⟩
theorem rdIn_rep {o : Oper} {rd : Operand → Option Opd} {ρ : Operand → Value} {ev : Opd → PV} (hrd : ∀ x d, rd x = some d → VRep G h w D (ρ x) (ev d)) : ∀ x d, rdIn o rd x = some d → VRep G h w D (ρ x) (ev d) := fun x d e => hrd x d (rdIn_some e).1
theorem idx_get {vs : List Nat} {t k : Nat} (h1 : vs.idxOf? t = some k) : vs[k]? = some t := by
  obtain ⟨h2, h3, _⟩ := List.idxOf?_eq_some_iff.1 h1
  rw [← h3]; exact List.getElem?_eq_getElem h2
theorem idx_none {vs : List Nat} {t k : Nat} (h1 : vs.idxOf? t = none) : vs[k]? ≠ some t := fun h2 => by
  have := List.idxOf?_eq_none_iff.1 h1
  exact this (List.mem_of_getElem? h2)
theorem nodup_get {vs : List Nat} (hn : vs.Nodup) {k k' t : Nat} (h1 : vs[k]? = some t) (h2 : vs[k']? = some t) : k = k' := by
  obtain ⟨a1, a2⟩ := List.getElem?_eq_some_iff.1 h1
  obtain ⟨b1, b2⟩ := List.getElem?_eq_some_iff.1 h2
  exact (List.getElem_inj hn).1 (a2.trans b2.symm)
theorem put_get {a : Act} {dst : Option Tmp} {v : Value} {t : Nat} (ht : dst ≠ some t) : (a.put dst v).tmps[t]? = a.tmps[t]? := by
  cases dst with
  | none => rfl
  | some d => simp only [Act.put]; exact Array.getElem?_setIfInBounds_ne (fun e => ht (by rw [e]))
theorem put_self {a : Act} {v : Value} {t : Nat} (ht : t < a.tmps.size) : (a.put (some t) v).tmps[t]? = some v := by simp [Act.put, ht]
theorem put_size {a : Act} {dst : Option Tmp} {v : Value} : (a.put dst v).tmps.size = a.tmps.size := by cases dst <;> simp [Act.put]
theorem put_def {a : Act} {dst : Option Tmp} {v : Value} : (a.put dst v).defers = a.defers := by cases dst <;> simp [Act.put]
theorem VarsR.put (x : Ext G h w G' h' w') {vs : List Nat} (hn : vs.Nodup) {vars : List PV} {a : Act} (hv : VarsR G h w vs vars a) {dst : Option Tmp} {v : Value} {p : PV} (hd : ∀ t, dst = some t → t < a.tmps.size) (hp : VRep G' h' w' D v p) :
    VarsR G' h' w' vs (setO vars (dst.bind (vs.idxOf? ·)) p) (a.put dst v) := by
  intro k s hk
  by_cases hs : dst = some s
  · subst hs
    refine ⟨v, put_self (hd s rfl), ?_⟩
    cases hi : vs.idxOf? s with
    | none => exact absurd hk (idx_none hi)
    | some k0 =>
      obtain rfl := nodup_get hn (idx_get hi) hk
      simp only [Option.bind_some, hi, setO]
      rw [List.getD_eq_getElem?_getD]
      by_cases hl : k0 < vars.length
      · rw [List.getElem?_set_self hl]; exact hp
      · rw [List.getElem?_eq_none (by simp; omega)]; exact mk_undef
  · obtain ⟨u, h1, h2⟩ := hv k s hk
    refine ⟨u, by rw [put_get hs]; exact h1, ?_⟩
    have : (setO vars (dst.bind (vs.idxOf? ·)) p).getD k .undef = vars.getD k .undef := by
      cases dst with
      | none => rfl
      | some t =>
        simp only [Option.bind_some]
        cases hi : vs.idxOf? t with
        | none => rfl
        | some k0 =>
          have hne : k0 ≠ k := fun e => by
            subst e
            have := (idx_get hi).symm.trans hk
            exact hs (by rw [Option.some.inj this])
          simp only [setO]
          rw [List.getD_eq_getElem?_getD, List.getD_eq_getElem?_getD, List.getElem?_set_ne hne]
    rw [this]; exact h2.ext x
theorem LocR.put (x : Ext G h w G' h' w') {ops : List Oper} {i : Nat} {o : Oper} (ho : ops[i]? = some o) {loc : List PV} {a : Act} (hl : LocR G h w ops i loc a) (hlen : loc.length = i) {v : Value} {p : PV} (hd : ∀ t, o.dst = some t → t < a.tmps.size) (hp : VRep G' h' w' D v p) :
    LocR G' h' w' ops (i + 1) (loc ++ [p]) (a.put o.dst v) := by
  intro t j hj
  simp only [lastW] at hj
  split at hj
  · rename_i hdt
    cases hj
    rw [ho] at hdt
    have hdt' : o.dst = some t := by simpa using hdt
    refine ⟨v, by rw [hdt']; exact put_self (hd t hdt'), ?_⟩
    rw [List.getD_eq_getElem?_getD, List.getElem?_append_right (by omega), hlen]; simpa using hp
  · rename_i hdt
    obtain ⟨u, h1, h2⟩ := hl t j hj
    have hji := (lastW_lt hj).1
    rw [ho] at hdt
    refine ⟨u, by rw [put_get (by simpa using hdt)]; exact h1, ?_⟩
    rw [List.getD_eq_getElem?_getD, List.getElem?_append_left (by omega), ← List.getD_eq_getElem?_getD]
    exact h2.ext x
/-- the ghost: what stands behind the variables -/
def gho (vs : List Nat) (vars : List PV) : PV := vars.getD vs.length .undef
theorem gho_set {vs : List Nat} {vars : List PV} {d : Option Nat} {p : PV} : gho vs (setO vars (d.bind (vs.idxOf? ·)) p) = gho vs vars := by
  unfold gho
  cases d with
  | none => rfl
  | some t =>
    simp only [Option.bind_some]
    cases hi : vs.idxOf? t with
    | none => rfl
    | some k =>
      have := (List.getElem?_eq_some_iff.1 (idx_get hi)).1
      simp only [setO, List.getD_eq_getElem?_getD]
      rw [List.getElem?_set_ne (by omega)]
/-- what holds behind the first i operations -/
def Inv (vs : List Nat) (N : Nat) (B : Nat) (Z0 : Nat → Prop) (W0 : Anch B) (ops : List Oper) (i : Nat) (st : XSt) (a : Act) (w : World) : Prop :=
  ∃ G, HRep B Z0 G st.heap w ∧ VarsR G st.heap w vs st.vars a ∧ LocR G st.heap w ops i st.loc a ∧ st.loc.length = i ∧ a.tmps.size = N ∧ DefOk W0.m a.defers w ∧ W0.psi (gho vs st.vars) G st.heap w
theorem inv_put {vs : List Nat} {N : Nat} {W0 : Anch B} {ops : List Oper} {i : Nat} {st : XSt} {a : Act} (hn : vs.Nodup) {o : Oper} (ho : ops[i]? = some o) (hd : ∀ t, o.dst = some t → t < N) {G : Gh} {w : World}
    (h1 : VarsR G st.heap w vs st.vars a) (h2 : LocR G st.heap w ops i st.loc a) (h3 : st.loc.length = i) (h4 : a.tmps.size = N) (h5 : DefOk W0.m a.defers w) (h6 : W0.psi (gho vs st.vars) G st.heap w) {v : Value} {w' : World} {G' : Gh} {p : PV} {ws : List (Nat × Row)}
    (hr' : HRep B Z0 G' (upd st.heap ws) w') (x : Ext G st.heap w G' (upd st.heap ws) w') (hp : VRep G' (upd st.heap ws) w' D v p) (hb : Bl B w w') :
    Inv vs N B Z0 W0 ops (i + 1) ⟨st.loc ++ [p], setO st.vars (o.dst.bind (vs.idxOf? ·)) p, upd st.heap ws⟩ (a.put o.dst v) w' :=
  ⟨G', hr', VarsR.put x hn h1 (fun t ht => by rw [h4]; exact hd t ht) hp, LocR.put x ho h2 h3 (fun t ht => by rw [h4]; exact hd t ht) hp, by simp [h3], by rw [put_size]; exact h4, by rw [put_def]; exact h5.step hb, by rw [gho_set]; exact W0.step h6 x hb⟩
/-- is an operation wanted? -/
theorem gd_sound {vs : List Nat} {ops : List Oper} {i : Nat} {loc vars : List PV} {a : Act} (hv : VarsR G h w vs vars a) (hl : LocR G h w ops i loc a) {o : Oper} {g : Option (Opd × Bool)}
    (hg : (match o.guard with
        | none => some none
        | some (j, b) => match (ops[j]?).bind (·.dst) with
          | some t => (rdOp vs ops i (.tmp t)).map fun d => some (d, b)
          | none => none) = some g) {c : Bool} (hc : gdO loc vars g = some c) : Region.wanted o (yielded ops.toArray a.tmps) = c := by
  unfold Region.wanted
  cases hgo : o.guard with
  | none =>
    rw [hgo] at hg
    simp at hg
    subst hg
    simpa [gdO] using hc
  | some jb =>
    obtain ⟨j, b⟩ := jb
    rw [hgo] at hg
    simp only at hg
    split at hg
    · rename_i t ht
      obtain ⟨d, h1, rfl⟩ := Option.map_eq_some_iff.1 hg
      have hr := rd_rep hv hl _ _ h1
      simp only [gdO] at hc
      have hy : yielded ops.toArray a.tmps j = (match a.tmps[t]? with | some (.bool b) => some b | _ => none) := by
        unfold yielded
        rw [show ops.toArray[j]? = ops[j]? by simp, ht]; rfl
      show (yielded ops.toArray a.tmps j == some b) = c
      rw [hy]
      split at hc
      · rename_i c0 he
        cases hc
        rw [he] at hr
        have hb := rep_bool hr
        have : a.tmps[t]? = some (.bool c0) := by
          simp only [Act.eval] at hb
          cases hq : a.tmps[t]? with
          | none => simp [Array.getD_eq_getD_getElem?, hq, undef] at hb
          | some q => simp [Array.getD_eq_getD_getElem?, hq] at hb; rw [hb]
        rw [this]; cases c0 <;> cases b <;> rfl
      · rename_i he
        cases hc
        rw [he] at hr
        obtain ⟨us, hb, hs⟩ := rep_tup hr
        simp only [Act.eval] at hb
        cases hq : a.tmps[t]? with
        | none => cases b <;> rfl
        | some q =>
          simp [Array.getD_eq_getD_getElem?, hq] at hb
          rw [hb]; cases b <;> rfl
      · cases hc
    · cases hg
theorem tup0 : VRep G h w D undef (.tup []) := by
  unfold D; unfold VRep
  exact ⟨#[], rfl, rfl, fun i c hc => by simp at hc⟩
theorem run_call {ρ : Operand → Value} {dst : Option Tmp} {f : FuncId} {args : Array Operand} {ats : Array TypeId} {type : TypeId} {pos : String} {after : Array Edge} {guard : Option (Nat × Bool)} (hf : callable P f = true) (hρ : ρ (.func f) = .func (.func f) #[] #[]) :
    (execOp ρ { dst := dst, op := .call { callee := .value (.func f), args := args, argTypes := ats }, type := type, pos := pos, after := after, guard := guard }).run P w = .ok (.enter f (args.map ρ)) w := by
  unfold callable at hf
  split at hf
  · rename_i fn hfn
    simp only [Bool.and_eq_true, Bool.not_eq_true'] at hf
    obtain ⟨h1, h2⟩ := hf
    have h3 : ¬ fn.body = none := fun e => by rw [e] at h2; cases h2
    have h4 : ¬ fn.name = "runtime.NumGoroutine" := by simpa using h1
    simp [execOp, resolve, hρ, Deferred.ofValue, invoke, callFunc, hfn, h3, h4]
  · cases hf
/-- a call of a function value -/
theorem run_callv {ρ : Operand → Value} {dst : Option Tmp} {fo : Operand} {f : FuncId} {vf vc : Array Value} {args : Array Operand} {ats : Array TypeId} {type : TypeId} {pos : String} {after : Array Edge} {guard : Option (Nat × Bool)} (hf : callable P f = true) (hρ : ρ fo = .func (.func f) vf vc) :
    (execOp ρ { dst := dst, op := .call { callee := .value fo, args := args, argTypes := ats }, type := type, pos := pos, after := after, guard := guard }).run P w = .ok (.enter f (vf ++ args.map ρ ++ vc)) w := by
  unfold callable at hf
  split at hf
  · rename_i fn hfn
    simp only [Bool.and_eq_true, Bool.not_eq_true'] at hf
    obtain ⟨h1, h2⟩ := hf
    have h3 : ¬ fn.body = none := fun e => by rw [e] at h2; cases h2
    have h4 : ¬ fn.name = "runtime.NumGoroutine" := by simpa using h1
    simp [execOp, resolve, hρ, Deferred.ofValue, invoke, callFunc, hfn, h3, h4]
  · cases hf
theorem lrep_ones {vs : Array Value} {cs : List PV} {n m : Nat} (hl : LRep (VRep G h w n) vs cs) (ho : cs.all one = true) : LRep (VRep G h w m) vs cs :=
  ⟨hl.1, fun i c hc => by
    obtain ⟨u, h1, h2⟩ := hl.2 i c hc
    have := List.all_eq_true.1 ho c (List.mem_of_getElem? hc)
    refine ⟨u, h1, VRep.cell ⟨fun cs e => ?_, fun cs e => ?_, fun f a b e => ?_⟩ h2⟩ <;> (subst e; simp [one] at this)⟩
/-- noS: nothing of it lies in frozen memory -/
def Gh.newZ (G : Gh) (n : Nat) : Gh := { G with Z := fun b => G.Z b ∧ n ≤ b }
theorem pr_noS {Z Z' : Nat → Prop} {c : PV} {v : Value} (h0 : noS0 c = true) (ho : one c = true) (hp : PR Z w v c) : PR Z' w v c := by
  obtain ⟨n, hp⟩ := hp
  cases c <;> (try (simp [noS0] at h0; done)) <;> (try (simp [one] at ho; done))
  all_goals
    refine ⟨0, ?_⟩
    cases n <;> (unfold PRep at hp ⊢; first | exact hp | exact hp.elim)
theorem resH_ob {szs : List Nat} {r : PV} {k g : Nat} {o : Ob} (ho : (resH szs r)[k]? = some (g, o)) : o = .dead ∨ ∃ es, (rcells r)[k]? = some (.uslc es) ∧ g = 1 ∧ o = .arr (szs.getD k 0) 0 false es := by
  by_cases hx : ∃ es, (rcells r)[k]? = some (.uslc es)
  · obtain ⟨es, he⟩ := hx
    rw [resH_arr he] at ho
    cases ho
    exact .inr ⟨es, he, rfl, rfl⟩
  · left
    have hk : k ∉ (thWs (resK szs) (fun _ => 1) 0 (rcells r)).map (·.1) := fun hm => by
      obtain ⟨x, hx1, rfl⟩ := List.mem_map.1 hm
      obtain ⟨i, es, h1, h2⟩ := thWs_mem hx1
      apply hx
      rw [h2]
      exact ⟨es, by simpa [resK] using h1⟩
    unfold resH at ho
    rw [upd_other _ _ _ hk] at ho
    have := List.eq_of_mem_replicate (List.mem_of_getElem? ho)
    cases this; rfl
theorem newZ_rep {szs : List Nat} {r : PV} (hr : HRep B Z0 G (resH szs r) w) (hn : noS r = true) (hok : rOk r = true) : HRep B (fun _ => False) (G.newZ B) (resH szs r) w := by
  refine ⟨hr.base, fun b hb => .inr hb.2, fun b hb => hr.zb b hb.1, hr.lv, fun k g o ho hl y hR hz => hr.nz k g o ho hl y hR hz.1, fun k g sz ver es ho y hR => ⟨hr.fz k g sz ver es ho y hR, (hr.lv _ hR).1⟩, hr.inj, fun k g o ho => ?_⟩
  have hob := hr.ob k g o ho
  rcases resH_ob ho with rfl | ⟨es, he, rfl, rfl⟩
  · trivial
  · unfold ORep at hob ⊢
    obtain ⟨o1, o2, o3, o4, o5⟩ := hob
    refine ⟨o1, o2, o3, fun hR => ?_, o5⟩
    obtain ⟨us, T, o6, o7, o8⟩ := o4 hR
    refine ⟨us, T, o6, o7, fun i e hie => ?_⟩
    obtain ⟨o9, o10⟩ := o8 i e hie
    refine ⟨o9, fun j c hc => ?_⟩
    obtain ⟨u, o11, o12⟩ := o10 j c hc
    refine ⟨u, o11, ?_⟩
    have hmem : PV.uslc es ∈ rcells r := List.mem_of_getElem? he
    have hn2 : noS2 (.uslc es) = true := by
      obtain ⟨x, hx1, hx2⟩ := List.mem_flatMap.1 hmem
      exact List.all_eq_true.1 (List.all_eq_true.1 hn x hx1) _ hx2
    have hn1 : noS1 c = true := List.all_eq_true.1 (show (ecells e).all noS1 = true from List.all_eq_true.1 hn2 e (List.mem_of_getElem? hie)) c (List.mem_of_getElem? hc)
    have hnr : (pureC c || isU c) = true := by
      have h1 : es.all noRefE = true := by simpa using List.all_eq_true.1 hok _ hmem
      exact List.all_eq_true.1 (show (ecells e).all (fun c => pureC c || isU c) = true from List.all_eq_true.1 h1 e (List.mem_of_getElem? hie)) c (List.mem_of_getElem? hc)
    cases c <;> (try (simp [pureC, isU] at hnr; done)) <;> (try (simp [noS1] at hn1; done))
    case uslc ns =>
      unfold CRep NRep at o12 ⊢
      refine ⟨fun rr => ?_, o12.2⟩
      obtain ⟨us', T', f, cc, n1, n2, n3, n4, n5, n6, n7, n8, n9⟩ := o12.1 rr
      refine ⟨us', T', f, cc, n1, n2, n3, n4, n5, n6, n7, n8, fun a x hx => ?_⟩
      obtain ⟨m1, m2⟩ := n9 a x hx
      refine ⟨m1, fun t y hy => ?_⟩
      obtain ⟨m3, vv, m4, m5⟩ := m2 t y hy
      exact ⟨m3, vv, m4, pr_noS (List.all_eq_true.1 (List.all_eq_true.1 hn1 x (List.mem_of_getElem? hx)) y (List.mem_of_getElem? hy)) m3 m5⟩
    all_goals
      unfold CRep at o12 ⊢
      obtain ⟨p1, p2⟩ := o12
      refine ⟨p1, ?_⟩
      unfold D at p2 ⊢; unfold VRep at p2 ⊢
      exact p2
theorem newZ_val {szs : List Nat} {ks : Nat → Nat × Nat} {gen : Nat → Nat} {r : PV} {v : Value} (hn : noS r = true) (hv : VRep G (resH szs r) w D v (thV ks gen r)) : VRep (G.newZ B) (resH szs r) w D v (thV ks gen r) := by
  refine thV_rep (fun {n u p c} hp hc => ?_) hv
  have hn2 : noS2 c = true := by
    obtain ⟨x, hx1, hx2⟩ := List.mem_flatMap.1 (List.mem_of_getElem? hp)
    exact List.all_eq_true.1 (List.all_eq_true.1 hn x hx1) _ hx2
  cases c <;> simp only [thC] at hc ⊢ <;> (try exact mk_undef)
  case slc es => simp [noS2] at hn2
  all_goals (cases n <;> (unfold VRep at hc ⊢; exact hc))
/-- A CALL -/
theorem call_sound (hr : HRep B Z0 G h w) {hide : List Nat} {ρ : Operand → Value} {ev : Opd → PV} {rd : Operand → Option Opd} (hrd : ∀ x d, rd x = some d → VRep G h w D (ρ x) (ev d)) {args : Array Operand} {ds : List Opd} (hds : optM rd args.toList = some ds) {f : FuncId} {ks : List (Nat × Nat)} {r : PV}
    (hF : Fn P f (ks.map (·.2)) (ds.map fun a => fzV (lkOf h hide) (ev a)) r) (hok : callOk h.length ks ((ds.map ev).any (hasOwn (lkOf h hide))) r = true) (hhid : ∀ j, j ∈ (ks.filter (·.2 != 0)).map (·.1) → hide.contains j = false) {R : Ending → World → Prop}
    (hR : ∀ v w' G', HRep B Z0 G' (upd h (thWs (ksF ks) (genF (lkOf h hide)) 0 (rcells r))) w' → Ext G h w G' (upd h (thWs (ksF ks) (genF (lkOf h hide)) 0 (rcells r))) w' → VRep G' (upd h (thWs (ksF ks) (genF (lkOf h hide)) 0 (rcells r))) w' D v (thV (ksF ks) (genF (lkOf h hide)) r) → Bl B w w' → R (.returned v) w') :
    Calls P f (args.map ρ) w R := by
  unfold callOk at hok
  simp only [Bool.and_eq_true] at hok
  obtain ⟨⟨⟨k1, k2⟩, k3⟩, k4⟩ := hok
  -- the numbers do not hang on the generations
  have hkeys : ∀ {g1 g2 : Nat → Nat} (cells : List PV) (q : Nat), (thWs (ksF ks) g1 q cells).map (·.1) = (thWs (ksF ks) g2 q cells).map (·.1) := by
    intro g1 g2 cells
    induction cells with
    | nil => intro q; rfl
    | cons c cells ih => intro q; cases c <;> simp only [thWs, List.map_cons, ih]
  have hn : ((thWs (ksF ks) (genF (lkOf h hide)) 0 (rcells r)).map (·.1)).Nodup := by
    rw [hkeys (g2 := fun _ => 0)]; exact nodupN_spec k2
  have hsz : ∀ p es, (rcells r)[p]? = some (.uslc es) → (ksF ks p).2 = (ks.map (·.2)).getD p 0 := fun p es _ => by
    simp only [ksF, List.getD_eq_getElem?_getD, List.getElem?_map]
    cases ks[p]? <;> rfl
  have hg : ∀ p es, (rcells r)[p]? = some (.uslc es) → ∃ o, h[(ksF ks p).1]? = some (genF (lkOf h hide) (ksF ks p).1 - 1, o) ∧ 0 < genF (lkOf h hide) (ksF ks p).1 := fun p es hp => by
    have hm := thWs_in (ks := ksF ks) (gen := fun _ => 0) (q := 0) hp
    have h3 := List.all_eq_true.1 k3 _ (List.mem_map.2 ⟨_, hm, rfl⟩)
    rw [Nat.zero_add, Bool.and_eq_true] at h3
    have hlt : (ksF ks p).1 < h.length := by simpa [Nat.blt_eq] using h3.1
    have hnh : hide.contains (ksF ks p).1 = false := hhid _ (List.contains_iff_mem.1 h3.2)
    obtain ⟨⟨g, o⟩, ho⟩ : ∃ x, h[(ksF ks p).1]? = some x := ⟨_, List.getElem?_eq_getElem hlt⟩
    exact ⟨o, by rw [ho]; simp [genF, lk_gen hnh ho], by simp [genF]⟩
  -- the memory that is passed
  have hargs : ∀ (Z' : Nat → Prop), (∀ b, G.Z b → Z' b) → ((ds.map ev).any (hasOwn (lkOf h hide)) = true → ∀ key, G.R key → Z' (G.β key)) → LRep (VRep (G0 Z') [] w D) (args.map ρ) (ds.map fun a => fzV (lkOf h hide) (ev a)) := fun Z' hz hown => by
    obtain ⟨q1, q2⟩ := optM_some hds
    refine ⟨by simpa using q1, fun i c hc => ?_⟩
    rw [List.getElem?_map] at hc
    obtain ⟨d, hd, rfl⟩ := Option.map_eq_some_iff.1 hc
    have hi : i < args.toList.length := by rw [q1]; exact (List.getElem?_eq_some_iff.1 hd).1
    obtain ⟨d', q3, q4⟩ := q2 i _ (List.getElem?_eq_getElem hi)
    rw [hd] at q3; cases q3
    have hi' : i < args.size := by simpa using hi
    refine ⟨ρ args.toList[i], by simp [hi'], fzV_rep hr hz (fun ho => hown (List.any_eq_true.2 ⟨_, List.mem_map.2 ⟨d, List.mem_of_getElem? hd, rfl⟩, ho⟩)) (hrd _ _ q4)⟩
  by_cases hown : (ds.map ev).any (hasOwn (lkOf h hide)) = true
  · have hnS : noS r = true := by simpa [hown] using k4
    refine (hF.2 w (fun b => G.Z b ∨ ∃ key, G.R key ∧ b = G.β key) (args.map ρ) ?_ (hargs _ (fun b hb => .inl hb) fun _ key hk => .inr ⟨key, hk, rfl⟩)).mono ?_
    · rintro b (hb | ⟨key, hk, rfl⟩)
      · exact hr.zb b hb
      · exact (hr.lv _ hk).2
    · rintro e w' ⟨v, G', rfl, hb, h1, h2⟩
      obtain ⟨G'', x1, x2, x3, x4⟩ := adopt hr hb (newZ_rep h1 hnS k1) (newZ_val (B := w.heap.size) hnS h2) (fun b hb' => .inr hb'.2) k1 hn hsz hg
      exact hR v w' G'' x1 x2 x3 x4
  · refine (hF.2 w G.Z (args.map ρ) hr.zb (hargs G.Z (fun b hb => hb) fun ho => absurd ho hown)).mono ?_
    rintro e w' ⟨v, G', rfl, hb, h1, h2⟩
    obtain ⟨G'', x1, x2, x3, x4⟩ := adopt hr hb h1 h2 h1.zo k1 hn hsz hg
    exact hR v w' G'' x1 x2 x3 x4
/-- A CALL OF A FUNCTION VALUE -/
theorem callv_sound (hr : HRep B Z0 G h w) {ρ : Operand → Value} {ev : Opd → PV} {rd : Operand → Option Opd} (hrd : ∀ x d, rd x = some d → VRep G h w D (ρ x) (ev d)) {fo : Operand} {fd : Opd} (hfo : rd fo = some fd) {args : Array Operand} {ds : List Opd} (hds : optM rd args.toList = some ds) {r : PV} {ws : List (Nat × Row)}
    (hF : FI P (ev fd) (ds.map ev) h r ws) : ∃ f vf vc, callable P f = true ∧ ρ fo = .func (.func f) vf vc ∧ ∀ R : Ending → World → Prop,
      (∀ v w' G', HRep B Z0 G' (upd h ws) w' → Ext G h w G' (upd h ws) w' → VRep G' (upd h ws) w' D v r → Bl B w w' → R (.returned v) w') → Calls P f (vf ++ args.map ρ ++ vc) w R := by
  obtain ⟨f, first, cap, hv, hc, ho, hF⟩ := hF
  rw [Bool.and_eq_true] at ho
  have hf := hrd _ _ hfo
  rw [hv] at hf
  unfold D at hf; unfold VRep at hf
  obtain ⟨vf, vc, h1, h2, h3⟩ := hf
  refine ⟨f, vf, vc, hc, h1, fun R hR => ?_⟩
  have hargs : LRep (VRep G h w D) (args.map ρ) (ds.map ev) := by
    obtain ⟨q1, q2⟩ := optM_some hds
    refine ⟨by simpa using q1, fun i c hc => ?_⟩
    rw [List.getElem?_map] at hc
    obtain ⟨d, hd, rfl⟩ := Option.map_eq_some_iff.1 hc
    have hi : i < args.toList.length := by rw [q1]; exact (List.getElem?_eq_some_iff.1 hd).1
    obtain ⟨d', q3, q4⟩ := q2 i _ (List.getElem?_eq_getElem hi)
    rw [hd] at q3; cases q3
    have hi' : i < args.size := by simpa using hi
    exact ⟨ρ args.toList[i], by simp [hi'], hrd _ _ q4⟩
  refine (hF B Z0 G w vf (args.map ρ) vc hr (lrep_ones h2 ho.1) hargs (lrep_ones h3 ho.2)).mono ?_
  rintro e w' ⟨u, G', rfl, x1, x2, x3, x4⟩
  exact hR u w' G' x1 x2 x3 x4
end
end Go.Proofs.Ytalgbgeocpbadaa.Am
