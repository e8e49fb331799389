/-
  Statements, and code.
-/
import Derived.Test.YteafgpjhgefiiaaAmP
namespace Go.Proofs.Yteafgpjhgefiiaa.Am
set_option linter.unusedSimpArgs false
set_option linter.unusedVariables false
set_option linter.unusedSectionVars false
open Go.RowKit
section
variable {P : Program} {B : Nat} {Z0 : Nat → Prop} {W0 : Anch B} {ρ : Option Nat} {nn : Nat}
theorem xrun_op {FN : FNs} {x : XOper} {xs : List XOper} {st : XSt} {Q : XSt → Prop} (hx : ∀ f a k al, x.op ≠ .call f a k al) (hv : ∀ f a, x.op ≠ .callv f a) (hg : gdO st.loc st.vars x.guard = some true) (h : xrun FN (x :: xs) st Q) :
    ∃ p ws, aop (evO st.loc st.vars) (lkOf st.heap x.hide) x.op = some (p, ws) ∧ xrun FN xs ⟨st.loc ++ [p], setO st.vars x.var p, upd st.heap ws⟩ Q := by
  cases hxo : x.op
  case call f a k al => exact absurd hxo (hx _ _ _ _)
  case callv f a => exact absurd hxo (hv _ _)
  all_goals
    simp only [xrun, hg, hxo] at h
    split at h
    · rename_i p ws ha; exact ⟨p, ws, ha, h⟩
    · exact h.elim
theorem compOp_call {rd : Operand → Option Opd} {k : Nat} {app : Nat × Option Nat} {al : Bool} {ty : TypeId} {op : Op} {f : FuncId} {a : List Opd} {ks : List (Nat × Nat)} {al' : Bool} (hc : compOp P rd k app al ty op = some (.call f a ks al')) :
    ∃ args ats, op = .call { callee := .value (.func f), args := args, argTypes := ats } ∧ optM rd args.toList = some a := by
  cases op <;> simp only [compOp] at hc
  case call c =>
    obtain ⟨callee, args, ats⟩ := c
    cases callee <;> simp only [] at hc
    case value g =>
      cases g <;> simp only [] at hc
      case func g =>
        split at hc
        · split at hc <;> cases hc
        · split at hc
          · rename_i l ks0 h1 h2
            cases hc
            exact ⟨args, ats, rfl, h1⟩
          · cases hc
      all_goals
        split at hc
        · cases hc
        · cases hc
    case builtin b =>
      exfalso
      unfold compBuiltin at hc
      split at hc <;> (try (cases hc; done)) <;> (repeat' (split at hc)) <;> (try (cases hc; done)) <;> (obtain ⟨d, _, h2⟩ := Option.map_eq_some_iff.1 hc; cases h2)
    case invoke => cases hc
  all_goals
    exfalso
    (repeat' (split at hc)) <;> first | (cases hc; done) | (obtain ⟨d, _, h2⟩ := Option.map_eq_some_iff.1 hc; cases h2; done)
theorem compOp_callv {rd : Operand → Option Opd} {k : Nat} {app : Nat × Option Nat} {al : Bool} {ty : TypeId} {op : Op} {f : Opd} {a : List Opd} (hc : compOp P rd k app al ty op = some (.callv f a)) :
    ∃ fo args ats, op = .call { callee := .value fo, args := args, argTypes := ats } ∧ rd fo = some f ∧ optM rd args.toList = some a := by
  cases op <;> simp only [compOp] at hc
  case call c =>
    obtain ⟨callee, args, ats⟩ := c
    cases callee <;> simp only [] at hc
    case value g =>
      cases g <;> simp only [] at hc
      case func g =>
        split at hc
        · split at hc
          · rename_i x l h1 h2
            cases hc
            exact ⟨_, args, ats, rfl, h1, h2⟩
          · cases hc
        · split at hc <;> cases hc
      all_goals
        split at hc
        · rename_i x l h1 h2
          cases hc
          exact ⟨_, args, ats, rfl, h1, h2⟩
        · cases hc
    case builtin b =>
      exfalso
      unfold compBuiltin at hc
      split at hc <;> (try (cases hc; done)) <;> (repeat' (split at hc)) <;> (try (cases hc; done)) <;> (obtain ⟨d, _, h2⟩ := Option.map_eq_some_iff.1 hc; cases h2)
    case invoke => cases hc
  all_goals
    exfalso
    (repeat' (split at hc)) <;> first | (cases hc; done) | (obtain ⟨d, _, h2⟩ := Option.map_eq_some_iff.1 hc; cases h2; done)
theorem compOp_nodefer {rd : Operand → Option Opd} {k : Nat} {app : Nat × Option Nat} {al : Bool} {ty : TypeId} {op : Op} {x : XOp} (h : compOp P rd k app al ty op = some x) : ∀ c, op ≠ .defer c := fun c e => by
  subst e; simp only [compOp] at h; cases h
/-- THE OPERATIONS OF A REGION, in the order of the text -/
theorem run_ops {vs : List Nat} {N : Nat} (hn : vs.Nodup) {ops : List Oper} {al : Bool} {Q : Exit → Act → World → Prop} {Q' : XSt → Prop} (hQ : ∀ i st a w, Inv vs N B Z0 W0 ops i st a w → Q' st → Q .normal a w) :
    ∀ (rest : List Oper) (acc : List XOper) (k k' : Nat) (xs : List XOper), ops.drop acc.length = rest → compOps P vs N ops al acc k rest = some (xs, k') → ∃ tail, xs = acc ++ tail ∧
      ∀ st a w, Inv vs N B Z0 W0 ops acc.length st a w → sitesIn st.heap.length tail = true → xrun (fns P) tail st Q' → wpOpsIn (fz ρ) nn P ops.toArray Q (List.range' acc.length rest.length) a w
  | [], acc, k, k', xs, hdrop, hc => by
    simp only [compOps, Option.some.injEq, Prod.mk.injEq] at hc
    obtain ⟨rfl, rfl⟩ := hc
    refine ⟨[], by simp, fun st a w hinv _ hx => ?_⟩
    simp only [xrun] at hx
    exact hQ _ st a w hinv hx
  | o :: rest, acc, k, k', xs, hdrop, hc => by
    have ho : ops[acc.length]? = some o := by
      have := congrArg (·[0]?) hdrop
      simpa using this
    have hdrop' : ops.drop (acc.length + 1) = rest := by
      rw [← List.drop_drop, hdrop]; rfl
    simp only [compOps] at hc
    split at hc
    · cases hc
    · rename_i xop hop
      split at hc
      · cases hc
      · rename_i g hg
        split at hc
        · rename_i hN
          obtain ⟨tail, rfl, ih⟩ := run_ops hn hQ rest (acc ++ [{ op := xop, var := o.dst.bind (vs.idxOf? ·), guard := g, hide := [] }]) (k + sitesOf xop) k' xs (by simpa using hdrop') hc
          refine ⟨{ op := xop, var := o.dst.bind (vs.idxOf? ·), guard := g, hide := [] } :: tail, by simp, fun st a w hinv hsites hx => ?_⟩
          obtain ⟨G, i1, i2, i3, i4, i5, i6, i7⟩ := hinv
          simp only [sitesIn, List.all_cons, Bool.and_eq_true] at hsites
          obtain ⟨hs1, hs2⟩ := hsites
          have hks : ∀ j, j ∈ siteNos xop → j < st.heap.length ∧ ([] : List Nat).contains j = false := fun j hj => ⟨by have := List.all_eq_true.1 hs1 j hj; simpa [Nat.blt_eq] using this, rfl⟩
          have hrd := rdIn_rep (o := o) (rd_rep i2 i3)
          have hd : ∀ t, o.dst = some t → t < N := fun t ht => by simp only [dstOk, ht] at hN; simpa [Nat.blt_eq] using hN
          have hcont : ∀ {p ws v w' G'}, HRep B Z0 G' (upd st.heap ws) w' → Ext G st.heap w G' (upd st.heap ws) w' → VRep G' (upd st.heap ws) w' D v p → Bl B w w' →
              xrun (fns P) tail ⟨st.loc ++ [p], setO st.vars (o.dst.bind (vs.idxOf? ·)) p, upd st.heap ws⟩ Q' → wpOpsIn (fz ρ) nn P ops.toArray Q (List.range' (acc.length + 1) rest.length) (a.put o.dst v) w' := fun {p ws v w' G'} r1 r2 r3 r4 r5 => by
            have := ih ⟨st.loc ++ [p], setO st.vars (o.dst.bind (vs.idxOf? ·)) p, upd st.heap ws⟩ (a.put o.dst v) w' (by
              simp only [List.length_append, List.length_cons, List.length_nil]
              exact inv_put hn ho hd i2 i3 i4 i5 i6 i7 r1 r2 r3 r4) (by simp only [upd_length]; exact hs2) r5
            simpa using this
          have hab : ∀ (a : Act) (w : World) f, o.about P w a.eval = some f → (fz ρ).fn f := fun _ _ _ _ => trivial
          have hsem : o.semAt (fz ρ).round a.eval = execOp a.eval o := Oper.semAt_eq _ _ _ (compOp_nodefer hop)
          have hwp : ∀ K, (∀ c, gdO st.loc st.vars g = some c → (if c then o.uponIn (fz ρ) nn P a K Q ((execOp a.eval o).run P w) else K (a.put o.dst undef) w)) → wpOpIn (fz ρ) nn P ops.toArray Q acc.length K a w := fun K hK => by
            unfold wpOpIn
            rw [show ops.toArray[acc.length]? = some o by simpa using ho]
            simp only
            cases hgd : gdO st.loc st.vars g with
            | none => simp only [xrun, hgd] at hx
            | some c =>
              have hw := gd_sound i2 i3 hg hgd
              have := hK c hgd
              rw [hw]
              cases c
              · exact ⟨hab _ _, by simpa using this⟩
              · refine ⟨hab _ _, ?_⟩
                rw [hsem]; simpa using this
          rw [show List.range' acc.length (o :: rest).length = acc.length :: List.range' (acc.length + 1) rest.length by simp [List.range'_succ], wpOpsIn_cons]
          refine hwp _ fun c hgd => ?_
          cases c with
          | false =>
            simp only [xrun, hgd] at hx
            simp only [Bool.false_eq_true, if_false]
            exact hcont (ws := []) i1 Ext.refl tup0 (Bl.refl _ _) hx
          | true =>
            simp only [if_true]
            by_cases hcall : ∃ f b ks al', xop = .call f b ks al'
            · obtain ⟨f, b, ks, al', rfl⟩ := hcall
              obtain ⟨args, ats, ho2, hds⟩ := compOp_call hop
              simp only [xrun, hgd] at hx
              obtain ⟨r, hF, hok, hx'⟩ := hx
              obtain ⟨dst, op, type, pos, after, guard⟩ := o
              simp only at ho2
              subst ho2
              have hrun := run_call (P := P) (w := w) (ρ := a.eval) (dst := dst) (args := args) (ats := ats) (type := type) (pos := pos) (after := after) (guard := guard) hF.1 rfl
              rw [hrun]
              refine ⟨fun e => (by cases e), callsIn_fz.2 ?_⟩
              exact call_sound i1 hrd hds hF hok (fun _ _ => rfl) fun v w' G' r1 r2 r3 r4 => hcont r1 r2 r3 r4 hx'
            by_cases hcv : ∃ f b, xop = .callv f b
            · obtain ⟨fd, b, rfl⟩ := hcv
              obtain ⟨fo, args, ats, ho2, hfo, hds⟩ := compOp_callv hop
              simp only [xrun, hgd] at hx
              obtain ⟨r, ws, hF, hx'⟩ := hx
              obtain ⟨dst, op, type, pos, after, guard⟩ := o
              simp only at ho2
              subst ho2
              obtain ⟨f, vf, vc, hcf, hρ, hcalls⟩ := callv_sound i1 hrd hfo hds hF
              have hrun := run_callv (P := P) (w := w) (ρ := a.eval) (dst := dst) (args := args) (ats := ats) (type := type) (pos := pos) (after := after) (guard := guard) hcf hρ
              rw [hrun]
              refine ⟨fun e => (by cases e), callsIn_fz.2 (hcalls _ fun v w' G' r1 r2 r3 r4 => hcont r1 r2 r3 r4 hx')⟩
            · obtain ⟨p, ws, ha, hx'⟩ := xrun_op (fun f b ks al' e => hcall ⟨f, b, ks, al', e⟩) (fun f b e => hcv ⟨f, b, e⟩) hgd hx
              obtain ⟨n, v, w', G', g1, g2, g3, g4, g5, g6⟩ := snd_op i1 hrd hop hks ha
              rw [g1]
              rcases g2 with rfl | ⟨rfl, rfl⟩
              · exact hcont g3 g4 g5 g6 hx'
              · exact hcont g3 g4 g5 g6 hx'
        · cases hc
end
end Go.Proofs.Yteafgpjhgefiiaa.Am
