/-
  Every operation that the plain machine takes is carried out as it says.
-/
import Derived.Test.YtalgbgeocpbadaaAmM
namespace Go.Proofs.Ytalgbgeocpbadaa.Am
set_option linter.unusedSimpArgs false
set_option linter.unusedVariables false
set_option linter.unusedSectionVars false
open Go.RowKit
section
variable {P : Program} {B : Nat} {Z0 : Nat → Prop} {G G' : Gh} {h h' : Heap} {w w' : World}
theorem optM_some {α β : Type} {f : α → Option β} : ∀ {l : List α} {m : List β}, optM f l = some m → l.length = m.length ∧ ∀ (i : Nat) a, l[i]? = some a → ∃ b, m[i]? = some b ∧ f a = some b
  | [], m, hk => by simp [optM] at hk; subst hk; exact ⟨rfl, fun i a h => by simp at h⟩
  | a :: l, m, hk => by
    simp only [optM] at hk
    split at hk
    · rename_i b m' h1 h2
      cases hk
      obtain ⟨h3, h4⟩ := optM_some h2
      refine ⟨by simp [h3], fun i x hx => ?_⟩
      cases i with
      | zero => simp at hx; subst hx; exact ⟨b, rfl, h1⟩
      | succ i => exact h4 i x (by simpa using hx)
    · cases hk
theorem optO_some {rd : Operand → Option Opd} {ρ : Operand → Value} {ev : Opd → PV} (hrd : ∀ x d, rd x = some d → VRep G h w D (ρ x) (ev d)) {x : Option Operand} {d : Option Opd} (hk : optO rd x = some d) : OV G h w (x.map ρ) (d.map ev) := by
  cases x with
  | none => simp [optO] at hk; subst hk; trivial
  | some x =>
    simp only [optO] at hk
    obtain ⟨d', h1, rfl⟩ := Option.map_eq_some_iff.1 hk
    exact hrd x d' h1
theorem run_foldMM {mx : Bool} {k : IntKind} : ∀ {l : List Value} {ps : List PV} {m n : Int}, l.length = ps.length → (∀ (i : Nat) p, ps[i]? = some p → ∃ v, l[i]? = some v ∧ VRep G h w D v p) → foldMM mx m ps = some n →
    (l.foldlM (if mx then Builtin.max2 else Builtin.min2) (.int k m)).run P w = .ok (.int k n) w
  | [], ps, m, n, hl, hv, hk => by
    have : ps = [] := List.length_eq_zero_iff.1 hl.symm
    subst this
    simp [foldMM] at hk
    subst hk
    rfl
  | v :: l, [], m, n, hl, hv, hk => by simp at hl
  | v :: l, p :: ps, m, n, hl, hv, hk => by
    cases p <;> (try (simp [foldMM] at hk; done))
    case int k' y =>
      obtain ⟨v', h1, h2⟩ := hv 0 _ rfl
      simp at h1; subst h1
      obtain rfl := rep_int h2
      simp only [foldMM] at hk
      have ih := run_foldMM (k := k) (l := l) (by simpa using hl) (fun i p hp => hv (i + 1) p (by simpa using hp)) hk
      simp only [List.foldlM_cons]
      cases mx
      · simp only [Bool.false_eq_true, if_false] at ih hk ⊢
        simp [Builtin.min2, ih]
      · simp only [if_true] at ih hk ⊢
        simp [Builtin.max2, ih]
theorem good_copy (hr : HRep B Z0 G h w) {s : Sem Value} {p : PV} (hs : ∃ v, s.run P w = .ok v w ∧ VRep G h w D v p) : Good P B Z0 G h w (do pure (.value (← s))) p [] :=
  let ⟨_, h1, h2⟩ := hs; good_val hr h1 h2
theorem plainT_of {op : BinOp} {t : TypeId} (h : plainT P t = true) : True := trivial
/-- the parts of a struct or an array -/
theorem parts_rep {rd : Operand → Option Opd} {ρ : Operand → Value} {ev : Opd → PV} (hrd : ∀ x d, rd x = some d → VRep G h w D (ρ x) (ev d)) {place : Nat → Option (Nat × Nat)} {f : Nat × Operand → Option (Nat × Nat × Opd)}
    (hf : ∀ a b, f a = some b → place a.1 = some (b.1, b.2.1) ∧ rd a.2 = some b.2.2) : ∀ {ps : List (Nat × Operand)} {l : List (Nat × Nat × Opd)}, optM f ps = some l → Parts G h w place (ps.map fun x => (x.1, ρ x.2)) (l.map fun x => (x.1, x.2.1, ev x.2.2))
  | [], l, hk => by simp [optM] at hk; subst hk; exact .nil
  | a :: ps, l, hk => by
    simp only [optM] at hk
    split at hk
    · rename_i b m h1 h2
      cases hk
      obtain ⟨h3, h4⟩ := hf a b h1
      exact .cons h3 (hrd _ _ h4) (parts_rep hrd hf h2)
    · cases hk
theorem partsI_rep {rd : Operand → Option Opd} {ρ : Operand → Value} {ev : Opd → PV} (hrd : ∀ x d, rd x = some d → VRep G h w D (ρ x) (ev d)) : ∀ {ps : List (Nat × Operand)} {l : List (Nat × Opd)}, optM (fun (p : Nat × Operand) => (rd p.2).map fun x => (p.1, x)) ps = some l → PartsI G h w (ps.map fun x => (x.1, ρ x.2)) (l.map fun x => (x.1, ev x.2))
  | [], l, hk => by simp [optM] at hk; subst hk; exact .nil
  | a :: ps, l, hk => by
    simp only [optM] at hk
    split at hk
    · rename_i b m h1 h2
      cases hk
      obtain ⟨d, h3, rfl⟩ := Option.map_eq_some_iff.1 h1
      exact .cons (hrd _ _ h3) (partsI_rep hrd h2)
    · cases hk
theorem placesA_some : ∀ {fs : List Field} {l : List (Nat × Nat)}, placesA P fs = some l → fs.mapM (fun f => (P.info? f.type).map fun i => (f.offset, i.size)) = some l
  | [], l, hk => by simp [placesA] at hk; subst hk; rfl
  | f :: fs, l, hk => by
    simp only [placesA] at hk
    split at hk
    · rename_i i m h1 h2
      cases hk
      simp [List.mapM_cons, h1, placesA_some h2]
    · cases hk
theorem optM_scale {rd : Operand → Option Opd} {s : Nat} : ∀ {L : List (Nat × Operand)} {l : List (Nat × Opd)}, optM (fun (p : Nat × Operand) => (rd p.2).map fun x => (p.1, x)) L = some l → optM (fun (p : Nat × Operand) => (rd p.2).map fun x => (p.1 * s, s, x)) L = some (l.map fun p => (p.1 * s, s, p.2))
  | [], l, hk => by simp [optM] at hk; subst hk; rfl
  | a :: L, l, hk => by
    simp only [optM] at hk
    split at hk
    · rename_i b m q3 q4
      cases hk
      obtain ⟨d, q5, rfl⟩ := Option.map_eq_some_iff.1 q3
      simp only [optM, q5, Option.map_some, optM_scale q4, List.map_cons]
    · cases hk
theorem agg_rep {A : Array Value} {cs : List PV} (hA : LRep (fun u c => one c = true ∧ VRep G h w D u c) A cs) : VRep G h w D (.agg A) (.agg cs) :=
  mk_agg (hA.mono fun _ _ y => one_cell y.1 y.2)
theorem ofV_agg {v : Value} {z : PV} {cs : List PV} (hk : ofV v = some z) (hv : ∃ vs, v = .agg vs) : True := trivial
theorem snd_build (hr : HRep B Z0 G h w) {t : TypeId} {z : PV} {place : Nat → Option (Nat × Nat)} {parts : Array (Nat × Value)} {xs : List (Nat × Nat × PV)} {cs : List PV} (hz : zeroA P t = some z)
    (hp : Parts G h w place parts.toList xs) (hk : buildP (ecells z) xs = some cs) (hb : ∀ i v A, P.info? t = some i → i.zero = some v → Instr.fill place v.cells parts.toList = some A → P.built t parts.toList = some A) :
    ∃ v, (Instr.build t parts).run P w = .ok v w ∧ VRep G h w D v (.agg cs) := by
  obtain ⟨i, v, h1, h2, h3⟩ := zeroA_some hz
  have hlz := lrep_one (G := G) (h := h) (w := w) h3
  obtain ⟨A, h4, h5⟩ := fill_rep (R := fun u c => one c = true ∧ VRep G h w D u c) (fun u c a b => ⟨a, b⟩) hp hlz hk
  exact ⟨_, run_build w t parts A (hb i v A h1 h2 h4), agg_rep h5⟩
theorem execOp_eq {ρ : Operand → Value} {o : Oper} {op : Op} (h : o.op = op) : execOp ρ o = execOp ρ { o with op := op } := by cases o; cases h; rfl
/-- EVERY OPERATION -/
theorem snd_op (hr : HRep B Z0 G h w) {hide : List Nat} {ρ : Operand → Value} {ev : Opd → PV} {rd : Operand → Option Opd} (hrd : ∀ x d, rd x = some d → VRep G h w D (ρ x) (ev d)) {o : Oper} {k : Nat} {app : Nat × Option Nat} {al : Bool} {xop : XOp} {p : PV} {ws : List (Nat × Row)}
    (hc : compOp P rd k app al o.type o.op = some xop) (hks : ∀ j, j ∈ siteNos xop → j < h.length ∧ hide.contains j = false) (ha : aop ev (lkOf h hide) xop = some (p, ws)) : Good P B Z0 G h w (execOp ρ o) p ws := by
  obtain ⟨dst, op, type, pos, after, guard⟩ := o
  cases op <;> simp only [compOp] at hc <;> (try (cases hc; done)) <;> simp only [execOp]
  case move x | assign x =>
    obtain ⟨d, h1, rfl⟩ := Option.map_eq_some_iff.1 hc
    simp only [aop, Option.some.injEq, Prod.mk.injEq] at ha
    obtain ⟨rfl, rfl⟩ := ha
    exact good_same hr rfl (hrd _ _ h1)
  case makeInterface | panic => cases hc; simp [aop] at ha
  case pick c a b =>
    split at hc
    · rename_i dc da db h1 h2 h3
      cases hc
      simp only [aop] at ha
      split at ha
      · rename_i t ht
        simp only [Option.some.injEq, Prod.mk.injEq] at ha
        obtain ⟨rfl, rfl⟩ := ha
        have hb := hrd _ _ h1
        rw [ht] at hb
        have := rep_bool hb
        refine good_same hr (v := if t then ρ a else ρ b) (by simp [this, asBool]) ?_
        cases t
        · exact hrd _ _ h3
        · exact hrd _ _ h2
      · cases ha
    · cases hc
  case alloc e =>
    obtain ⟨z, h1, rfl⟩ := Option.map_eq_some_iff.1 hc
    simp only [aop] at ha
    split at ha
    · simp only [Option.some.injEq, Prod.mk.injEq] at ha
      obtain ⟨rfl, rfl⟩ := ha
      exact snd_alloc hr (hks k (by simp [siteNos])) h1
    · cases ha
  case box e x =>
    obtain ⟨d, h1, rfl⟩ := Option.map_eq_some_iff.1 hc
    simp only [aop] at ha
    split at ha
    · rename_i ho
      simp only [Option.some.injEq, Prod.mk.injEq] at ha
      obtain ⟨rfl, rfl⟩ := ha
      exact snd_box hr (hks k (by simp [siteNos])) (hrd _ _ h1) ho
    · cases ha
  case build t ps =>
    split at hc
    · rename_i z fs h1 h2
      split at hc
      · rename_i places h3
        split at hc
        · rename_i l h4
          cases hc
          simp only [aop] at ha
          split at ha
          · rename_i cs h5
            simp only [Option.some.injEq, Prod.mk.injEq] at ha
            obtain ⟨rfl, rfl⟩ := ha
            have hpp := parts_rep (G := G) (h := h) (w := w) (place := fun i => places.toArray[i]?) hrd (f := fun (p : Nat × Operand) => match places[p.1]?, rd p.2 with
              | some q, some x => some (q.1, q.2, x)
              | _, _ => none) (fun a b hab => by
                try dsimp only at hab
                split at hab
                · rename_i q x q1 q2
                  cases hab
                  exact And.intro (by simpa using q1) q2
                · cases hab) h4
            refine good_copy hr (snd_build hr (place := fun i => places.toArray[i]?) h1 (by simpa using hpp) h5 fun i v A g1 g2 g3 => ?_)
            unfold Program.built
            simp only [g1, h2, g2, placesA_some h3]
            exact g3
          · cases ha
        · cases hc
      · cases hc
    · rename_i z n e h1 h2
      split at hc
      · rename_i s l h3 h4
        cases hc
        simp only [aop] at ha
        split at ha
        · rename_i cs h5
          simp only [Option.some.injEq, Prod.mk.injEq] at ha
          obtain ⟨rfl, rfl⟩ := ha
          obtain ⟨ie, q1, rfl⟩ := sizeA_some h3
          refine good_copy hr (snd_build hr (place := fun i => some (i * ie.size, ie.size)) h1 ?_ h5 fun i v A g1 g2 g3 => ?_)
          · have := parts_rep (G := G) (h := h) (w := w) (place := fun i => some (i * ie.size, ie.size)) hrd (f := fun (p : Nat × Operand) => (rd p.2).map fun x => (p.1 * ie.size, ie.size, x)) (fun a b hab => by
              obtain ⟨d, q2, rfl⟩ := Option.map_eq_some_iff.1 hab
              exact ⟨rfl, q2⟩) (ps := ps.toList) (l := l.map fun p => (p.1 * ie.size, ie.size, p.2)) ?_
            · simpa using this
            · exact optM_scale h4
          · unfold Program.built
            simp only [g1, h2, g2, q1]
            exact g3
        · cases ha
      · cases hc
    · cases hc
  case buildSlice t n ps =>
    split at hc
    · rename_i e h1
      split at hc
      · rename_i s z l h2 h3 h4
        split at hc
        · rename_i hcond
          obtain ⟨c1, c2, c3⟩ := hcond
          simp only [Option.some.injEq] at hc
          split at hc
          · subst hc
            simp only [aop] at ha
            split at ha
            · rename_i es h5
              split at ha
              · rename_i hpu
                simp only [Option.some.injEq, Prod.mk.injEq] at ha
                obtain ⟨rfl, rfl⟩ := ha
                exact snd_lit hr h1 h2 h3 c1 c2 c3 (by simpa using partsI_rep hrd h4) h5 hpu
              · cases ha
            · cases ha
          · subst hc
            simp only [aop] at ha
            split at ha
            · rename_i es h5
              simp only [Option.some.injEq, Prod.mk.injEq] at ha
              obtain ⟨rfl, rfl⟩ := ha
              exact snd_buildSlice hr (hks k (by simp [siteNos])) h1 h2 h3 c1 c2 c3 (by simpa using partsI_rep hrd h4) h5
            · cases ha
        · cases hc
      · cases hc
    · cases hc
  case load t a =>
    split at hc
    · rename_i g s d h1 h2 h3
      split at hc
      · simp only [Option.some.injEq] at hc
        split at hc
        · subst hc
          simp only [aop] at ha
          split at ha
          · rename_i k' g' o' hev
            split at ha
            · rename_i r h4
              simp only [Option.some.injEq, Prod.mk.injEq] at ha
              obtain ⟨rfl, rfl⟩ := ha
              exact good_copy hr (snd_loadP hr h1 h2 (hrd _ _ h3) (by rw [hev]; exact h4))
            · cases ha
          · cases ha
        · subst hc
          simp only [aop] at ha
          split at ha
          · rename_i r h4
            simp only [Option.some.injEq, Prod.mk.injEq] at ha
            obtain ⟨rfl, rfl⟩ := ha
            exact good_copy hr (snd_loadP hr h1 h2 (hrd _ _ h3) h4)
          · cases ha
      · cases hc
    · cases hc
  case store t a v =>
    split at hc
    · rename_i s da dv h1 h2 h3
      split at hc
      · rename_i h0
        cases hc
        simp only [aop] at ha
        split at ha
        · rename_i ws' h4
          simp only [Option.some.injEq, Prod.mk.injEq] at ha
          obtain ⟨rfl, rfl⟩ := ha
          exact snd_storeP hr h1 h0 (hrd _ _ h2) (hrd _ _ h3) h4
        · cases ha
      · cases hc
    · cases hc
  case nilCheck x =>
    obtain ⟨d, h1, rfl⟩ := Option.map_eq_some_iff.1 hc
    have hv := hrd _ _ h1
    simp only [aop] at ha
    split at ha
    all_goals first | (cases ha; done) | skip
    all_goals
      rename_i he
      simp only [Option.some.injEq, Prod.mk.injEq] at ha
      obtain ⟨rfl, rfl⟩ := ha
      first
        | rw [he] at hv
        | skip
    · have hv' := hv
      unfold D at hv'; unfold VRep at hv'
      obtain ⟨b, hb, _⟩ := hv'
      rw [he, hb]
      rw [hb] at hv
      exact good_same hr rfl hv
    · have hv' := hv
      unfold D at hv'; unfold VRep at hv'
      obtain ⟨b, f, hb, _⟩ := hv'
      rw [he, hb]
      rw [hb] at hv
      exact good_same hr rfl hv
    · have hv' := hv
      unfold D at hv'; unfold VRep at hv'
      obtain ⟨b, f, hb, _⟩ := hv'
      rw [he, hb]
      rw [hb] at hv
      exact good_same hr rfl hv
    · have hv' := hv
      unfold D at hv'; unfold VRep at hv'
      obtain ⟨b, f, hb, _⟩ := hv'
      rw [he, hb]
      rw [hb] at hv
      exact good_same hr rfl hv
    · obtain ⟨vs, us, hb, h5, h6⟩ := rep_fn hv
      rw [hb] at hv ⊢
      exact good_same hr rfl hv
  case binOp op t x y yt =>
    split at hc
    · split at hc
      · split at hc
        · rename_i dx dy h1 h2
          cases hc
          simp only [aop] at ha
          split at ha
          · rename_i r h3
            simp only [Option.some.injEq, Prod.mk.injEq] at ha
            obtain ⟨rfl, rfl⟩ := ha
            exact good_copy hr (snd_bin (hrd _ _ h1) (hrd _ _ h2) h3)
          · cases ha
        · cases hc
      · cases hc
    · split at hc
      · rename_i dx dy h1 h2
        cases hc
        simp only [aop] at ha
        split at ha
        · rename_i r h3
          simp only [Option.some.injEq, Prod.mk.injEq] at ha
          obtain ⟨rfl, rfl⟩ := ha
          exact good_copy hr (snd_bin (hrd _ _ h1) (hrd _ _ h2) h3)
        · cases ha
      · cases hc
  case unOp op t x =>
    obtain ⟨d, h1, rfl⟩ := Option.map_eq_some_iff.1 hc
    simp only [aop] at ha
    split at ha
    · rename_i r h3
      simp only [Option.some.injEq, Prod.mk.injEq] at ha
      obtain ⟨rfl, rfl⟩ := ha
      exact good_copy hr (snd_un (hrd _ _ h1) h3)
    · cases ha
  case convert s d x =>
    split at hc
    · rename_i k1 k2 h1 h2
      obtain ⟨dx, h3, rfl⟩ := Option.map_eq_some_iff.1 hc
      simp only [aop] at ha
      split at ha
      · rename_i kk n he
        simp only [Option.some.injEq, Prod.mk.injEq] at ha
        obtain ⟨rfl, rfl⟩ := ha
        have hv := hrd _ _ h3
        rw [he] at hv
        have := rep_int hv
        rw [this]
        refine good_copy hr ⟨_, ?_, mk_int⟩
        simp [convert, run_underlying h1, run_underlying h2, Conv.intToInt]
      · cases ha
    · rename_i h1 h2
      obtain ⟨dx, h3, rfl⟩ := Option.map_eq_some_iff.1 hc
      simp only [aop] at ha
      split at ha
      · rename_i n he
        simp only [Option.some.injEq, Prod.mk.injEq] at ha
        obtain ⟨rfl, rfl⟩ := ha
        have hv := hrd _ _ h3
        rw [he] at hv
        have := rep_str hv
        rw [this]
        refine good_copy hr ⟨_, ?_, mk_str⟩
        simp [convert, run_underlying h1, run_underlying h2]
      · cases ha
    · cases hc
  case makeSlice t l c =>
    split at hc
    · rename_i e h1
      split at hc
      · rename_i s b z dl dc h2 h3 h4 h5 h6
        split at hc
        · rename_i hcond
          obtain ⟨c1, c2, c3⟩ := hcond
          cases hc
          simp only [aop] at ha
          split at ha
          · rename_i vl vc e1 e2
            split at ha
            · rename_i hcond
              obtain ⟨d1, d2, d3, d4⟩ := hcond
              simp only [Option.some.injEq, Prod.mk.injEq] at ha
              obtain ⟨rfl, rfl⟩ := ha
              have hl := hrd _ _ h5
              have hcc := hrd _ _ h6
              rw [e1] at hl; rw [e2] at hcc
              rw [rep_int hl, rep_int hcc]
              exact snd_makeSlice hr (hks k (by simp [siteNos])) h1 h2 h3 h4 c1 c2 d1 d2 d3 d4
            · cases ha
          · cases ha
        · cases hc
      · cases hc
    · cases hc
  case slice t x lo hi mx =>
    split at hc
    · rename_i h1
      split at hc
      · rename_i dx dlo dhi dmx h2 h3 h4 h5
        cases hc
        simp only [aop] at ha
        split at ha
        · rename_i r h6
          simp only [Option.some.injEq, Prod.mk.injEq] at ha
          obtain ⟨rfl, rfl⟩ := ha
          exact good_copy hr (snd_sliceS h1 (hrd _ _ h2) (optO_some hrd h3) (optO_some hrd h4) (optO_some hrd h5) h6)
        · cases ha
      · cases hc
    · rename_i e h1
      split at hc
      · rename_i s dx dlo dhi dmx h1' h2 h3 h4 h5
        cases hc
        simp only [aop] at ha
        split at ha
        · rename_i r h6
          simp only [Option.some.injEq, Prod.mk.injEq] at ha
          obtain ⟨rfl, rfl⟩ := ha
          exact good_copy hr (snd_slice h1 h1' (hrd _ _ h2) (optO_some hrd h3) (optO_some hrd h4) (optO_some hrd h5) h6)
        · cases ha
      · cases hc
    · cases hc
  case fieldAddr s x f =>
    split at hc
    · rename_i fd h1
      split at hc
      · rename_i z d h2 h3
        split at hc
        · rename_i h0
          cases hc
          simp only [aop] at ha
          split at ha
          · rename_i r h4
            simp only [Option.some.injEq, Prod.mk.injEq] at ha
            obtain ⟨rfl, rfl⟩ := ha
            obtain ⟨b, o, h5, h6⟩ := snd_addrOff (hrd _ _ h3) h4
            rw [h5]
            exact good_val hr (run_fieldAt h1 h2 h0) h6
          · cases ha
        · cases hc
      · cases hc
    · cases hc
  case field t x f =>
    split at hc
    · rename_i fd h1
      split at hc
      · rename_i g s d h2 h3 h4
        split at hc
        · rename_i h0
          cases hc
          simp only [aop] at ha
          split at ha
          · rename_i cs he
            split at ha
            · rename_i r h5
              simp only [Option.some.injEq, Prod.mk.injEq] at ha
              obtain ⟨rfl, rfl⟩ := ha
              have hv := hrd _ _ h4
              rw [he] at hv
              obtain ⟨vs, h6, h7⟩ := rep_agg hv
              obtain ⟨u, h8, h9⟩ := snd_part (P := P) h2 h3 h7 h5
              obtain ⟨fs, q1, q2⟩ := fieldA_some h1
              rw [h6]
              exact good_val hr (by simp [Instr.field, run_underlying q1, q2, asAgg, h8]) h9
            · cases ha
          · cases ha
        · cases hc
      · cases hc
    · cases hc
  case indexAddr t x i =>
    split at hc
    · rename_i e h1
      split at hc
      · rename_i s dx di h2 h3 h4
        split at hc
        · cases hc
          simp only [aop] at ha
          split at ha
          · rename_i kk n he
            split at ha
            · rename_i r h5
              simp only [Option.some.injEq, Prod.mk.injEq] at ha
              obtain ⟨rfl, rfl⟩ := ha
              have hi := hrd _ _ h4
              rw [he] at hi
              rw [rep_int hi]
              exact good_copy hr (snd_idx h1 h2 (hrd _ _ h3) h5)
            · cases ha
          · cases ha
        · cases hc
      · cases hc
    · rename_i n e h1
      split at hc
      · rename_i s dx di h2 h3 h4
        split at hc
        · cases hc
          simp only [aop] at ha
          split at ha
          · rename_i kk m he
            split at ha
            · rename_i hm
              split at ha
              · rename_i r h5
                simp only [Option.some.injEq, Prod.mk.injEq] at ha
                obtain ⟨rfl, rfl⟩ := ha
                have hi := hrd _ _ h4
                rw [he] at hi
                obtain ⟨b, o, h6, h7⟩ := snd_addrOff (hrd _ _ h3) h5
                rw [rep_int hi, h6]
                exact good_val hr (run_indexAtA h1 h2 hm.1 hm.2) h7
              · cases ha
            · cases ha
          · cases ha
        · cases hc
      · cases hc
    · cases hc
  case index t x i =>
    split at hc
    · rename_i n e h1
      split at hc
      · rename_i g s dx di h2 h3 h4 h5
        split at hc
        · cases hc
          simp only [aop] at ha
          split at ha
          · rename_i kk m cs e1 e2
            split at ha
            · rename_i hm
              split at ha
              · rename_i r h6
                simp only [Option.some.injEq, Prod.mk.injEq] at ha
                obtain ⟨rfl, rfl⟩ := ha
                have hi := hrd _ _ h5
                have hx := hrd _ _ h4
                rw [e1] at hi; rw [e2] at hx
                obtain ⟨vs, h7, h8⟩ := rep_agg hx
                obtain ⟨u, h9, h10⟩ := snd_part (P := P) h2 h3 h8 h6
                obtain ⟨ie, q1, rfl⟩ := sizeA_some h3
                rw [rep_int hi, h7]
                exact good_val hr (by simp [Instr.index, run_underlying h1, asIntOf, sizeOf, typeInfo, q1, hm.1, hm.2, h9]) h10
              · cases ha
            · cases ha
          · cases ha
        · cases hc
      · cases hc
    · rename_i h1
      split at hc
      · rename_i dx di h2 h3
        cases hc
        simp only [aop] at ha
        split at ha
        · rename_i kk m ss e1 e2
          split at ha
          · rename_i hm
            split at ha
            · rename_i b h4
              simp only [Option.some.injEq, Prod.mk.injEq] at ha
              obtain ⟨rfl, rfl⟩ := ha
              have hi := hrd _ _ h3
              have hx := hrd _ _ h2
              rw [e1] at hi; rw [e2] at hx
              rw [rep_int hi, rep_str hx]
              have h5 : ss[m.toNat]? = some b := by
                have hlt := (List.getElem?_eq_some_iff.1 h4).1
                have hlt' : m.toNat < ss.size := by simpa using hlt
                rw [getElem?_pos ss m.toNat hlt']
                have h6 := (List.getElem?_eq_some_iff.1 h4).2
                rw [← h6]; simp; rfl
              refine good_val hr ?_ mk_int
              simp [Instr.index, run_underlying h1, asIntOf, hm, h5]
            · cases ha
          · cases ha
        · cases ha
      · cases hc
    · cases hc
  case extract x i =>
    obtain ⟨d, h1, rfl⟩ := Option.map_eq_some_iff.1 hc
    simp only [aop] at ha
    split at ha
    · rename_i cs he
      split at ha
      · rename_i r h2
        simp only [Option.some.injEq, Prod.mk.injEq] at ha
        obtain ⟨rfl, rfl⟩ := ha
        have hv := hrd _ _ h1
        rw [he] at hv
        obtain ⟨vs, h3, h4⟩ := rep_tup hv
        obtain ⟨u, h5, h6⟩ := h4.2 _ _ h2
        rw [h3]
        exact good_val hr (by simp [Instr.extract, h5]) h6.up
      · cases ha
    · cases ha
  case makeFunc fn a b =>
    split at hc
    · rename_i da db h1 h2
      cases hc
      simp only [aop] at ha
      split at ha
      · rename_i hone
        simp only [Option.some.injEq, Prod.mk.injEq] at ha
        obtain ⟨rfl, rfl⟩ := ha
        have hl : ∀ {l : Array Operand} {m : List Opd}, optM rd l.toList = some m → (m.map ev).all one = true → LRep (VRep G h w 5) (l.map ρ) (m.map ev) := fun {l m} hm ho => by
          obtain ⟨q1, q2⟩ := optM_some hm
          refine ⟨by simpa using q1, fun i c hic => ?_⟩
          rw [List.getElem?_map] at hic
          obtain ⟨d, hd, rfl⟩ := Option.map_eq_some_iff.1 hic
          have hi : i < l.toList.length := by rw [q1]; exact (List.getElem?_eq_some_iff.1 hd).1
          obtain ⟨d', q3, q4⟩ := q2 i _ (List.getElem?_eq_getElem hi)
          rw [hd] at q3; cases q3
          refine ⟨ρ l.toList[i], ?_, one_cell (List.all_eq_true.1 ho _ (List.mem_map.2 ⟨d, List.mem_of_getElem? hd, rfl⟩)) (hrd _ _ q4)⟩
          have hi' : i < l.size := by simpa using hi
          simp [hi']
        refine good_val hr (v := .func fn (a.map ρ) (b.map ρ)) (by simp [Instr.makeFunc]) ?_
        unfold D; unfold VRep
        exact ⟨_, _, rfl, hl h1 hone.1, hl h2 hone.2⟩
      · cases ha
    · cases hc
  case call c =>
    obtain ⟨callee, args, argTypes⟩ := c
    cases callee <;> simp only [] at hc
    case invoke => cases hc
    case value f =>
      cases f <;> simp only [] at hc
      case func f =>
        split at hc
        · split at hc
          · cases hc; simp [aop] at ha
          · cases hc
        · split at hc
          · cases hc; simp [aop] at ha
          · cases hc
      all_goals
        split at hc
        · cases hc; cases al <;> simp [aop] at ha
        · cases hc
    case builtin b =>
      have hres : ∀ n w', (builtin b argTypes type (args.map fun | .const _ => true | _ => false) (args.map ρ)).run P w = .ok n w' → (do let d ← resolve ρ { callee := .builtin b, args := args, argTypes := argTypes } type; invoke d.target d.args : Sem Next).run P w = .ok n w' := fun n w' hh => by
        simp only [resolve, Sem.run_bind, Sem.run_pure, Result.andThen_ok, invoke]; exact hh
      have conv : ∀ {p ws}, Good P B Z0 G h w (builtin b argTypes type (args.map fun | .const _ => true | _ => false) (args.map ρ)) p ws → Good P B Z0 G h w (do let d ← resolve ρ { callee := .builtin b, args := args, argTypes := argTypes } type; invoke d.target d.args : Sem Next) p ws := fun {p ws} ⟨n, v, w', G', g1, g2⟩ => ⟨n, v, w', G', hres n w' g1, g2⟩
      refine conv ?_
      generalize hA : args.toList = A at hc
      generalize hT : argTypes.toList = T at hc
      have hargs : args = A.toArray := by rw [← hA]
      have htys : argTypes = T.toArray := by rw [← hT]
      subst hargs htys
      unfold compBuiltin at hc
      split at hc
      · -- len
        rename_i x t
        split at hc
        · rename_i hu
          obtain ⟨d, h1, rfl⟩ := Option.map_eq_some_iff.1 hc
          simp only [aop] at ha
          split at ha
          · rename_i n h2
            simp only [Option.some.injEq, Prod.mk.injEq] at ha
            obtain ⟨rfl, rfl⟩ := ha
            exact good_same hr (by simp [builtin, snd_len (P := P) (t := t) (ty := type) (by simpa using hu) (hrd _ _ h1) h2]) mk_int
          · cases ha
        · rename_i e hu
          obtain ⟨d, h1, rfl⟩ := Option.map_eq_some_iff.1 hc
          simp only [aop] at ha
          split at ha
          · rename_i n h2
            simp only [Option.some.injEq, Prod.mk.injEq] at ha
            obtain ⟨rfl, rfl⟩ := ha
            exact good_same hr (by simp [builtin, snd_len (P := P) (t := t) (ty := type) (by simpa using ⟨e, hu⟩) (hrd _ _ h1) h2]) mk_int
          · cases ha
        · rename_i n e hu
          cases hc
          simp only [aop, Option.some.injEq, Prod.mk.injEq] at ha
          obtain ⟨rfl, rfl⟩ := ha
          exact good_same hr (by simp [builtin, Builtin.len_, run_underlying hu, goInt]) mk_int
        · cases hc
      · -- min
        rename_i x xs t ts
        split at hc
        · rename_i k0 ys hu h1
          cases hc
          simp only [aop] at ha
          split at ha
          · rename_i kk n r he
            split at ha
            · rename_i m h2
              simp only [Option.some.injEq, Prod.mk.injEq] at ha
              obtain ⟨rfl, rfl⟩ := ha
              obtain ⟨q1, q2⟩ := optM_some h1
              have hall : ∀ (i : Nat) p, (ys.map ev)[i]? = some p → ∃ v, ((x :: xs).map ρ)[i]? = some v ∧ VRep G h w D v p := fun i p hp => by
                rw [List.getElem?_map] at hp
                obtain ⟨d, hd, rfl⟩ := Option.map_eq_some_iff.1 hp
                have hi : i < (x :: xs).length := by rw [q1]; exact (List.getElem?_eq_some_iff.1 hd).1
                obtain ⟨d', q3, q4⟩ := q2 i _ (List.getElem?_eq_getElem hi)
                rw [hd] at q3; cases q3
                exact ⟨ρ (x :: xs)[i], by rw [List.getElem?_map, List.getElem?_eq_getElem hi]; rfl, hrd _ _ q4⟩
              rw [he] at hall
              obtain ⟨v0, q5, q6⟩ := hall 0 _ rfl
              have hx : ρ x = .int kk n := by simp at q5; rw [q5]; exact rep_int q6
              have hlr : (xs.map ρ).length = r.length := by
                have := congrArg List.length he
                simp at this q1
                simp; omega
              have hrun := run_foldMM (P := P) (mx := false) (k := kk) hlr (fun i p hp => hall (i + 1) p (by simpa using hp)) h2
              refine good_same hr ?_ (mk_int (k := kk) (i := m))
              simp [builtin, Builtin.min_, hx]
              simp at hrun
              simp [hrun]
            · cases ha
          · cases ha
        · cases hc
      · -- max
        rename_i x xs t ts
        split at hc
        · rename_i k0 ys hu h1
          cases hc
          simp only [aop] at ha
          split at ha
          · rename_i kk n r he
            split at ha
            · rename_i m h2
              simp only [Option.some.injEq, Prod.mk.injEq] at ha
              obtain ⟨rfl, rfl⟩ := ha
              obtain ⟨q1, q2⟩ := optM_some h1
              have hall : ∀ (i : Nat) p, (ys.map ev)[i]? = some p → ∃ v, ((x :: xs).map ρ)[i]? = some v ∧ VRep G h w D v p := fun i p hp => by
                rw [List.getElem?_map] at hp
                obtain ⟨d, hd, rfl⟩ := Option.map_eq_some_iff.1 hp
                have hi : i < (x :: xs).length := by rw [q1]; exact (List.getElem?_eq_some_iff.1 hd).1
                obtain ⟨d', q3, q4⟩ := q2 i _ (List.getElem?_eq_getElem hi)
                rw [hd] at q3; cases q3
                exact ⟨ρ (x :: xs)[i], by rw [List.getElem?_map, List.getElem?_eq_getElem hi]; rfl, hrd _ _ q4⟩
              rw [he] at hall
              obtain ⟨v0, q5, q6⟩ := hall 0 _ rfl
              have hx : ρ x = .int kk n := by simp at q5; rw [q5]; exact rep_int q6
              have hlr : (xs.map ρ).length = r.length := by
                have := congrArg List.length he
                simp at this q1
                simp; omega
              have hrun := run_foldMM (P := P) (mx := true) (k := kk) hlr (fun i p hp => hall (i + 1) p (by simpa using hp)) h2
              refine good_same hr ?_ (mk_int (k := kk) (i := m))
              simp [builtin, Builtin.max_, hx]
              simp at hrun
              simp [hrun]
            · cases ha
          · cases ha
        · cases hc
      · -- append
        rename_i s x t u
        split at hc
        · rename_i e hu
          split at hc
          · rename_i sz by_ z ds dx h1 h2 h3 h4 h5
            split at hc
            · rename_i hcond
              obtain ⟨c1, c2, c3, c4⟩ := hcond
              obtain rfl : u = t := c4
              cases hc
              simp only [aop] at ha
              split at ha
              · rename_i news ws1 h6
                split at ha
                case isFalse => cases ha
                · rename_i hno
                  simp only [appOk, Bool.and_eq_true] at hno
                  obtain ⟨⟨n1, _⟩, n3⟩ := hno
                  split at ha
                  · rename_i v' ws2 h7
                    simp only [Option.some.injEq, Prod.mk.injEq] at ha
                    obtain ⟨rfl, rfl⟩ := ha
                    have hg := snd_append (P := P) (ty := type) hr (hks _ (by simp [siteNos])) hu h1 h2 h3 c3 c1 c2 (hrd _ _ h4) (hrd _ _ h5) h6 (by simpa using n3) (by simpa using n1) h7
                    simpa [builtin] using hg
                  · cases ha
              · cases ha
            · cases hc
          · cases hc
        · cases hc
      · -- copy
        split at hc
        · rename_i e0 hu
          split at hc
          · rename_i sz d s h1 h2 h3
            split at hc
            · rename_i h0
              cases hc
              simp only [aop] at ha
              split at ha
              · rename_i news ws1 h4
                have hg := fun u => snd_copy (P := P) (ty := type) (u := u) hr hu h1 h0 (hrd _ _ h2) (hrd _ _ h3) h4 ha
                simp [builtin] at hg ⊢
                exact hg _
              · cases ha
            · cases hc
          · cases hc
        · cases hc
      · cases hc
end
end Go.Proofs.Ytalgbgeocpbadaa.Am
