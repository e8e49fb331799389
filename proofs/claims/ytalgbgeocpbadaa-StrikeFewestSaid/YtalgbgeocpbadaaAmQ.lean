/-
  Statements, and code.
-/
import Derived.Test.YtalgbgeocpbadaaAmP
namespace Go.Proofs.Ytalgbgeocpbadaa.Am
set_option linter.unusedSimpArgs false
set_option linter.unusedVariables false
set_option linter.unusedSectionVars false
open Go.RowKit
section
variable {P : Program} {B : Nat} {Z0 : Nat → Prop} {W0 : Anch B} {ρ : Option Nat} {nn : Nat}
theorem xrun_op {FN : FNs} {x : XOper} {xs : List XOper} {st : XSt} {Q : XSt → Prop} (hx : ∀ f a k al, x.op ≠ .call f a k al) (hv : ∀ f a, x.op ≠ .callv f a) (hy : ∀ f a, x.op ≠ .cally f a) (hg : gdO st.loc st.vars x.guard = some true) (h : xrun FN (x :: xs) st Q) :
    ∃ p ws, aop (evO st.loc st.vars) (lkOf st.heap x.hide) x.op = some (p, ws) ∧ xrun FN xs ⟨st.loc ++ [p], setO st.vars x.var p, upd st.heap ws⟩ Q := by
  cases hxo : x.op
  case call f a k al => exact absurd hxo (hx _ _ _ _)
  case callv f a => exact absurd hxo (hv _ _)
  case cally f a => exact absurd hxo (hy _ _)
  all_goals
    simp only [xrun, hg, hxo] at h
    split at h
    · rename_i p ws ha; exact ⟨p, ws, ha, h⟩
    · exact h.elim
theorem compOp_call {rd : Operand → Option Opd} {k : Nat} {app : Nat × Option Nat} {al : Bool} {ty : TypeId} {op : Op} {f : FuncId} {a : List Opd} {ks : List (Nat × Nat)} {al' : Bool} (hc : compOp P rd k app al ty op = some (.call f a ks al')) :
    ∃ args ats, op = .call { callee := .value (.func f), args := args, argTypes := ats } ∧ optM rd args.toList = some a := by
  cases op <;> simp only [compOp] at hc
  case call c =>
    obtain ⟨callee, args, ats⟩ := c
    cases callee <;> simp only [] at hc
    case value g =>
      cases g <;> simp only [] at hc
      case func g =>
        split at hc
        · split at hc <;> cases hc
        · split at hc
          · rename_i l ks0 h1 h2
            cases hc
            exact ⟨args, ats, rfl, h1⟩
          · cases hc
      all_goals
        split at hc
        · cases al <;> cases hc
        · cases hc
    case builtin b =>
      exfalso
      unfold compBuiltin at hc
      split at hc <;> (try (cases hc; done)) <;> (repeat' (split at hc)) <;> (try (cases hc; done)) <;> (obtain ⟨d, _, h2⟩ := Option.map_eq_some_iff.1 hc; cases h2)
    case invoke => cases hc
  all_goals
    exfalso
    (repeat' (split at hc)) <;> first | (cases hc; done) | (obtain ⟨d, _, h2⟩ := Option.map_eq_some_iff.1 hc; cases h2; done)
theorem compOp_cally {rd : Operand → Option Opd} {k : Nat} {app : Nat × Option Nat} {al : Bool} {ty : TypeId} {op : Op} {f : Opd} {a : List Opd} (hc : compOp P rd k app al ty op = some (.cally f a)) :
    ∃ fo args ats, op = .call { callee := .value fo, args := args, argTypes := ats } ∧ rd fo = some f ∧ optM rd args.toList = some a := by
  cases op <;> simp only [compOp] at hc
  case call c =>
    obtain ⟨callee, args, ats⟩ := c
    cases callee <;> simp only [] at hc
    case value g =>
      cases g <;> simp only [] at hc
      case func g =>
        split at hc
        · split at hc
          · rename_i x l h1 h2
            cases hc
          · cases hc
        · split at hc <;> cases hc
      all_goals
        split at hc
        · rename_i x l h1 h2
          cases al
          · cases hc
          · cases hc
            exact ⟨_, args, ats, rfl, h1, h2⟩
        · cases hc
    case builtin b =>
      exfalso
      unfold compBuiltin at hc
      split at hc <;> (try (cases hc; done)) <;> (repeat' (split at hc)) <;> (try (cases hc; done)) <;> (obtain ⟨d, _, h2⟩ := Option.map_eq_some_iff.1 hc; cases h2)
    case invoke => cases hc
  all_goals
    exfalso
    (repeat' (split at hc)) <;> first | (cases hc; done) | (obtain ⟨d, _, h2⟩ := Option.map_eq_some_iff.1 hc; cases h2; done)
theorem compOp_callv {rd : Operand → Option Opd} {k : Nat} {app : Nat × Option Nat} {al : Bool} {ty : TypeId} {op : Op} {f : Opd} {a : List Opd} (hc : compOp P rd k app al ty op = some (.callv f a)) :
    ∃ fo args ats, op = .call { callee := .value fo, args := args, argTypes := ats } ∧ rd fo = some f ∧ optM rd args.toList = some a := by
  cases op <;> simp only [compOp] at hc
  case call c =>
    obtain ⟨callee, args, ats⟩ := c
    cases callee <;> simp only [] at hc
    case value g =>
      cases g <;> simp only [] at hc
      case func g =>
        split at hc
        · split at hc
          · rename_i x l h1 h2
            cases hc
            exact ⟨_, args, ats, rfl, h1, h2⟩
          · cases hc
        · split at hc <;> cases hc
      all_goals
        split at hc
        · rename_i x l h1 h2
          cases al
          · cases hc
            exact ⟨_, args, ats, rfl, h1, h2⟩
          · cases hc
        · cases hc
    case builtin b =>
      exfalso
      unfold compBuiltin at hc
      split at hc <;> (try (cases hc; done)) <;> (repeat' (split at hc)) <;> (try (cases hc; done)) <;> (obtain ⟨d, _, h2⟩ := Option.map_eq_some_iff.1 hc; cases h2)
    case invoke => cases hc
  all_goals
    exfalso
    (repeat' (split at hc)) <;> first | (cases hc; done) | (obtain ⟨d, _, h2⟩ := Option.map_eq_some_iff.1 hc; cases h2; done)
theorem compOp_nodefer {rd : Operand → Option Opd} {k : Nat} {app : Nat × Option Nat} {al : Bool} {ty : TypeId} {op : Op} {x : XOp} (h : compOp P rd k app al ty op = some x) : ∀ c, op ≠ .defer c := fun c e => by
  subst e; simp only [compOp] at h; cases h
/-- WHAT A CALL OF A VALUE GIVES that may be a loop's body -/
def FyR (B : Nat) (Z0 : Nat → Prop) (W0 : Anch B) (vs : List Nat) (vars : List PV) (K : PV → List PV → Heap → Prop) (G : Gh) (h : Heap) (w : World) : Ending → World → Prop := fun e w' =>
  ∃ r vars' h' u G', e = .returned u ∧ K r vars' h' ∧ (∀ k, k < vs.length → vars'.getD k .undef = vars.getD k .undef) ∧ HRep B Z0 G' h' w' ∧ Ext G h w G' h' w' ∧ VRep G' h' w' D u r ∧ W0.psi (gho vs vars') G' h' w' ∧ ∀ ds, DefOk W0.m ds w → DefOk W0.m ds w'
abbrev FYT := PV → List PV → List PV → Heap → (PV → List PV → Heap → Prop) → Prop
def FyOk (P : Program) (B : Nat) (Z0 : Nat → Prop) (W0 : Anch B) (ρ : Option Nat) (vs : List Nat) (Y : FYT) : Prop := ∀ {v : PV} {args vars : List PV} {h : Heap} {K : PV → List PV → Heap → Prop}, Y v args vars h K →
  ∀ {G : Gh} {w : World} {u : Value} {va : Array Value}, HRep B Z0 G h w → W0.psi (gho vs vars) G h w → VRep G h w D u v → LRep (VRep G h w D) va args →
    (∃ f vf vc, callable P f = true ∧ u = .func (.func f) vf vc ∧ Calls P f (vf ++ va ++ vc) w (FyR B Z0 W0 vs vars K G h w)) ∨
    (∃ l, u = .func (.yield l) #[] #[] ∧ ∀ n, YieldAt (fz ρ) n P l va w (FyR B Z0 W0 vs vars K G h w))
theorem fyI_ok {ρ : Option Nat} {vs : List Nat} {W0 : Anch B} : FyOk P B Z0 W0 ρ vs (fyI P) := by
  rintro v args vars h K ⟨r, ws, ⟨f, first, cap, rfl, hcal, hone, hF⟩, hK⟩ G w u va hr hpsi hv ha
  left
  unfold D at hv; unfold VRep at hv
  obtain ⟨vf, vc, rfl, hf, hc⟩ := hv
  rw [Bool.and_eq_true] at hone
  refine ⟨f, vf, vc, hcal, rfl, ?_⟩
  refine (hF B Z0 G w vf va vc hr (lrep_ones hf hone.1) ha (lrep_ones hc hone.2)).mono ?_
  rintro e w' ⟨u, G', rfl, h1, h2, h3, h4⟩
  exact ⟨r, vars, _, u, G', rfl, hK, fun _ _ => rfl, h1, h2, h3, W0.step hpsi h2 h4, fun ds hd => hd.step h4⟩
theorem run_yieldv {ρ : Operand → Value} {dst : Option Tmp} {fo : Operand} {l : Nat} {args : Array Operand} {ats : Array TypeId} {type : TypeId} {pos : String} {after : Array Edge} {guard : Option (Nat × Bool)} {w : World} (hρ : ρ fo = .func (.yield l) #[] #[]) :
    (execOp ρ { dst := dst, op := .call { callee := .value fo, args := args, argTypes := ats }, type := type, pos := pos, after := after, guard := guard }).run P w = (Instr.yield l (args.map ρ)).run P w := by
  simp [execOp, resolve, hρ, Deferred.ofValue, invoke]
/-- THE OPERATIONS OF A REGION, in the order of the text -/
theorem run_ops {vs : List Nat} {N : Nat} {FN : FNs} (hfn : FN.fn = Fn P) (hfi : FN.fi = FI P) (hfy : FyOk P B Z0 W0 ρ vs FN.fy) (hn : vs.Nodup) {ops : List Oper} {al : Bool} {Q : Exit → Act → World → Prop} {Q' : XSt → Prop} (hQ : ∀ i st a w, Inv vs N B Z0 W0 ops i st a w → Q' st → Q .normal a w) :
    ∀ (rest : List Oper) (acc : List XOper) (k k' : Nat) (xs : List XOper), ops.drop acc.length = rest → compOps P vs N ops al acc k rest = some (xs, k') → ∃ tail, xs = acc ++ tail ∧
      ∀ st a w, Inv vs N B Z0 W0 ops acc.length st a w → sitesIn st.heap.length tail = true → xrun FN tail st Q' → wpOpsIn (fz ρ) nn P ops.toArray Q (List.range' acc.length rest.length) a w
  | [], acc, k, k', xs, hdrop, hc => by
    simp only [compOps, Option.some.injEq, Prod.mk.injEq] at hc
    obtain ⟨rfl, rfl⟩ := hc
    refine ⟨[], by simp, fun st a w hinv _ hx => ?_⟩
    simp only [xrun] at hx
    exact hQ _ st a w hinv hx
  | o :: rest, acc, k, k', xs, hdrop, hc => by
    have ho : ops[acc.length]? = some o := by
      have := congrArg (·[0]?) hdrop
      simpa using this
    have hdrop' : ops.drop (acc.length + 1) = rest := by
      rw [← List.drop_drop, hdrop]; rfl
    simp only [compOps] at hc
    split at hc
    · cases hc
    · rename_i xop hop
      split at hc
      · cases hc
      · rename_i g hg
        split at hc
        · rename_i hN
          obtain ⟨tail, rfl, ih⟩ := run_ops hfn hfi hfy hn hQ rest (acc ++ [{ op := xop, var := o.dst.bind (vs.idxOf? ·), guard := g, hide := [] }]) (k + sitesOf xop) k' xs (by simpa using hdrop') hc
          refine ⟨{ op := xop, var := o.dst.bind (vs.idxOf? ·), guard := g, hide := [] } :: tail, by simp, fun st a w hinv hsites hx => ?_⟩
          obtain ⟨G, i1, i2, i3, i4, i5, i6, i7⟩ := hinv
          simp only [sitesIn, List.all_cons, Bool.and_eq_true] at hsites
          obtain ⟨hs1, hs2⟩ := hsites
          have hks : ∀ j, j ∈ siteNos xop → j < st.heap.length ∧ ([] : List Nat).contains j = false := fun j hj => ⟨by have := List.all_eq_true.1 hs1 j hj; simpa [Nat.blt_eq] using this, rfl⟩
          have hrd := rdIn_rep (o := o) (rd_rep i2 i3)
          have hd : ∀ t, o.dst = some t → t < N := fun t ht => by simp only [dstOk, ht] at hN; simpa [Nat.blt_eq] using hN
          have hcont : ∀ {p ws v w' G'}, HRep B Z0 G' (upd st.heap ws) w' → Ext G st.heap w G' (upd st.heap ws) w' → VRep G' (upd st.heap ws) w' D v p → Bl B w w' →
              xrun FN tail ⟨st.loc ++ [p], setO st.vars (o.dst.bind (vs.idxOf? ·)) p, upd st.heap ws⟩ Q' → wpOpsIn (fz ρ) nn P ops.toArray Q (List.range' (acc.length + 1) rest.length) (a.put o.dst v) w' := fun {p ws v w' G'} r1 r2 r3 r4 r5 => by
            have := ih ⟨st.loc ++ [p], setO st.vars (o.dst.bind (vs.idxOf? ·)) p, upd st.heap ws⟩ (a.put o.dst v) w' (by
              simp only [List.length_append, List.length_cons, List.length_nil]
              exact inv_put hn ho hd i2 i3 i4 i5 i6 i7 r1 r2 r3 r4) (by simp only [upd_length]; exact hs2) r5
            simpa using this
          have hab : ∀ (a : Act) (w : World) f, o.about P w a.eval = some f → (fz ρ).fn f := fun _ _ _ _ => trivial
          have hsem : o.semAt (fz ρ).round a.eval = execOp a.eval o := Oper.semAt_eq _ _ _ (compOp_nodefer hop)
          have hwp : ∀ K, (∀ c, gdO st.loc st.vars g = some c → (if c then o.uponIn (fz ρ) nn P a K Q ((execOp a.eval o).run P w) else K (a.put o.dst undef) w)) → wpOpIn (fz ρ) nn P ops.toArray Q acc.length K a w := fun K hK => by
            unfold wpOpIn
            rw [show ops.toArray[acc.length]? = some o by simpa using ho]
            simp only
            cases hgd : gdO st.loc st.vars g with
            | none => simp only [xrun, hgd] at hx
            | some c =>
              have hw := gd_sound i2 i3 hg hgd
              have := hK c hgd
              rw [hw]
              cases c
              · exact ⟨hab _ _, by simpa using this⟩
              · refine ⟨hab _ _, ?_⟩
                rw [hsem]; simpa using this
          rw [show List.range' acc.length (o :: rest).length = acc.length :: List.range' (acc.length + 1) rest.length by simp [List.range'_succ], wpOpsIn_cons]
          refine hwp _ fun c hgd => ?_
          cases c with
          | false =>
            simp only [xrun, hgd] at hx
            simp only [Bool.false_eq_true, if_false]
            exact hcont (ws := []) i1 Ext.refl tup0 (Bl.refl _ _) hx
          | true =>
            simp only [if_true]
            by_cases hcall : ∃ f b ks al', xop = .call f b ks al'
            · obtain ⟨f, b, ks, al', rfl⟩ := hcall
              obtain ⟨args, ats, ho2, hds⟩ := compOp_call hop
              simp only [xrun, hgd] at hx
              obtain ⟨r, hF, hok, hx'⟩ := hx
              rw [hfn] at hF
              obtain ⟨dst, op, type, pos, after, guard⟩ := o
              simp only at ho2
              subst ho2
              have hrun := run_call (P := P) (w := w) (ρ := a.eval) (dst := dst) (args := args) (ats := ats) (type := type) (pos := pos) (after := after) (guard := guard) hF.1 rfl
              rw [hrun]
              refine ⟨fun e => (by cases e), callsIn_fz.2 ?_⟩
              exact call_sound i1 hrd hds hF hok (fun _ _ => rfl) fun v w' G' r1 r2 r3 r4 => hcont r1 r2 r3 r4 hx'
            by_cases hcy : ∃ f b, xop = .cally f b
            · obtain ⟨fd, b, rfl⟩ := hcy
              obtain ⟨fo, args, ats, ho2, hfo, hds⟩ := compOp_cally hop
              simp only [xrun, hgd] at hx
              obtain ⟨dst, op, type, pos, after, guard⟩ := o
              simp only at ho2
              subst ho2
              have hargs : LRep (VRep G st.heap w D) (args.map a.eval) (b.map (evO st.loc st.vars)) := by
                obtain ⟨q1, q2⟩ := optM_some hds
                refine ⟨by simpa using q1, fun i c hc => ?_⟩
                rw [List.getElem?_map] at hc
                obtain ⟨d, hd, rfl⟩ := Option.map_eq_some_iff.1 hc
                have hi : i < args.toList.length := by rw [q1]; exact (List.getElem?_eq_some_iff.1 hd).1
                obtain ⟨d', q3, q4⟩ := q2 i _ (List.getElem?_eq_getElem hi)
                rw [hd] at q3; cases q3
                have hi' : i < args.size := by simpa using hi
                exact ⟨a.eval args.toList[i], by simp [hi'], hrd _ _ q4⟩
              have hback : ∀ (e : Ending) (w' : World), FyR B Z0 W0 vs st.vars (fun r vs' h => h.length = st.heap.length ∧ xrun FN tail ⟨st.loc ++ [r], setO vs' (dst.bind (vs.idxOf? ·)) r, h⟩ Q') G st.heap w e w' →
                  (match e with
                    | .returned v => wpOpsIn (fz ρ) nn P ops.toArray Q (List.range' (acc.length + 1) rest.length) (a.put dst v) w'
                    | _ => False) := by
                rintro e w' ⟨r, vars', h', u, G', rfl, ⟨hlen, hx'⟩, hv', r1, r2, r3, r4, r5⟩
                have i2' : VarsR G st.heap w vs vars' a := fun k s hk => by
                  obtain ⟨v, q1, q2⟩ := i2 k s hk
                  rw [← hv' k (List.getElem?_eq_some_iff.1 hk).1] at q2
                  exact ⟨v, q1, q2⟩
                have := ih ⟨st.loc ++ [r], setO vars' (dst.bind (vs.idxOf? ·)) r, h'⟩ (a.put dst u) w' (by
                  simp only [List.length_append, List.length_cons, List.length_nil]
                  exact ⟨G', r1, VarsR.put r2 hn i2' (fun t ht => by rw [i5]; exact hd t ht) r3, LocR.put r2 ho i3 i4 (fun t ht => by rw [i5]; exact hd t ht) r3, by simp [i4], by rw [put_size]; exact i5, by rw [put_def]; exact r5 _ i6, by rw [gho_set]; exact r4⟩) (by simp only [hlen]; exact hs2) hx'
                simpa using this
              rcases hfy hx i1 i7 (hrd _ _ hfo) hargs with ⟨f, vf, vc, hcf, hρ, hcalls⟩ | ⟨l, hρ, hround⟩
              · have hrun := run_callv (P := P) (w := w) (ρ := a.eval) (dst := dst) (args := args) (ats := ats) (type := type) (pos := pos) (after := after) (guard := guard) hcf hρ
                rw [hrun]
                refine ⟨fun e => (by cases e), callsIn_fz.2 (hcalls.mono fun e w' hh => ?_)⟩
                have := hback e w' hh
                cases e with
                | returned v => exact this
                | panicked ch => exact this.elim
                | outgrown => exact this.elim
              · have hrun := run_yieldv (P := P) (w := w) (ρ := a.eval) (dst := dst) (args := args) (ats := ats) (type := type) (pos := pos) (after := after) (guard := guard) hρ
                obtain ⟨fn, tm, asg, body, hy1, hy2⟩ := hround (nn - 1)
                rw [hrun, hy1]
                refine ⟨fun e => (by cases e), hy2.mono fun e w' hh => ?_⟩
                have := hback e w' hh
                cases e with
                | returned v => exact this
                | panicked ch => exact this.elim
                | outgrown => exact this.elim
            by_cases hcv : ∃ f b, xop = .callv f b
            · obtain ⟨fd, b, rfl⟩ := hcv
              obtain ⟨fo, args, ats, ho2, hfo, hds⟩ := compOp_callv hop
              simp only [xrun, hgd] at hx
              obtain ⟨r, ws, hF, hx'⟩ := hx
              rw [hfi] at hF
              obtain ⟨dst, op, type, pos, after, guard⟩ := o
              simp only at ho2
              subst ho2
              obtain ⟨f, vf, vc, hcf, hρ, hcalls⟩ := callv_sound i1 hrd hfo hds hF
              have hrun := run_callv (P := P) (w := w) (ρ := a.eval) (dst := dst) (args := args) (ats := ats) (type := type) (pos := pos) (after := after) (guard := guard) hcf hρ
              rw [hrun]
              refine ⟨fun e => (by cases e), callsIn_fz.2 (hcalls _ fun v w' G' r1 r2 r3 r4 => hcont r1 r2 r3 r4 hx')⟩
            · obtain ⟨p, ws, ha, hx'⟩ := xrun_op (fun f b ks al' e => hcall ⟨f, b, ks, al', e⟩) (fun f b e => hcv ⟨f, b, e⟩) (fun f b e => hcy ⟨f, b, e⟩) hgd hx
              obtain ⟨n, v, w', G', g1, g2, g3, g4, g5, g6⟩ := snd_op i1 hrd hop hks ha
              rw [g1]
              rcases g2 with rfl | ⟨rfl, rfl⟩
              · exact hcont g3 g4 g5 g6 hx'
              · exact hcont g3 g4 g5 g6 hx'
        · cases hc
end
end Go.Proofs.Ytalgbgeocpbadaa.Am
