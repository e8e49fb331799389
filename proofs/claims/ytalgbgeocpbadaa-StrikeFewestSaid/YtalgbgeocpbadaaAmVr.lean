/-
  Loops over functions.
-/
import Derived.Test.YtalgbgeocpbadaaAmVf
import Derived.RangeFuncRecord
namespace Go.Proofs.Ytalgbgeocpbadaa.Am
set_option linter.unusedSimpArgs false
set_option linter.unusedVariables false
set_option linter.unusedSectionVars false
open Go.RowKit
theorem Shut.mono {m m' : Nat} {w w' : World} (h : Shut m w w') (hm : m' ≤ m) : Shut m' w w' := ⟨h.os, h.tape, h.output, h.size, h.cells, fun b hb => h.low b (by omega)⟩
/-- blocks of calls that are put off lie as they lay -/
def KD (w w' : World) : Prop := ∀ k : Nat, w.heap[k]? = some (.deferred (some [])) → w'.heap[k]? = some (.deferred (some []))
theorem KD.refl (w : World) : KD w w := fun _ h => h
theorem KD.trans {a b c : World} (h : KD a b) (k : KD b c) : KD a c := fun i x => k i (h i x)
theorem KD.bl {B : Nat} {w w' : World} (b : Bl B w w') : KD w w' := fun k h => b.same k _ h rfl
theorem KD.put {l : Nat} {w : World} {r : Loop} {o : Obj} (h : w.heap[l]? = some (.loop r)) : KD w (w.putObj l o) := fun k hk => (World.putObj_heap_other fun e => by subst e; rw [h] at hk; cases hk).trans hk
theorem DefOk.kd {m : Nat} {ds : List Deferred} {w w' : World} (h : DefOk m ds w) (k : KD w w') : DefOk m ds w' := by
  obtain ⟨Ds, h1, h2, h3⟩ := h
  exact ⟨Ds, h1, h2, fun D hD => ⟨(h3 D hD).1, k D (h3 D hD).2⟩⟩
section
variable {P : Program} {B : Nat} {Z0 : Nat → Prop} {vs : List Nat} {N : Nat} {G : Gh} {h : Heap} {w : World}
theorem varsR_ps (hn : vs.Nodup) : ∀ (ps : List Tmp) (va : List Value) (args vars : List PV) (a : Act), args.length = ps.length → va.length = args.length → (∀ (i : Nat) c, args[i]? = some c → ∃ u, va[i]? = some u ∧ VRep G h w D u c) →
    (∀ t ∈ ps, t < a.tmps.size) → VarsR G h w vs vars a →
    VarsR G h w vs (setPs vars (ps.map fun t => vs.idxOf? t) args) { a with tmps := (ps.zip va).foldl (fun t x => t.setIfInBounds x.1 x.2) a.tmps } ∧ ((ps.zip va).foldl (fun t x => t.setIfInBounds x.1 x.2) a.tmps).size = a.tmps.size
  | [], va, args, vars, a, h1, h2, h3, h4, h5 => by
    have : args = [] := List.eq_nil_of_length_eq_zero h1
    subst this
    exact ⟨h5, rfl⟩
  | p :: ps, [], args, vars, a, h1, h2, h3, h4, h5 => by simp at h1 h2; omega
  | p :: ps, v :: va, [], vars, a, h1, h2, h3, h4, h5 => by simp at h1
  | p :: ps, v :: va, c :: args, vars, a, h1, h2, h3, h4, h5 => by
    obtain ⟨u, g1, g2⟩ := h3 0 c rfl
    simp at g1; subst g1
    have hp := VarsR.put (Ext.refl (G := G) (h := h) (w := w)) hn h5 (dst := some p) (v := v) (p := c) (fun t ht => by cases ht; exact h4 _ List.mem_cons_self) g2
    have := varsR_ps hn ps va args (setO vars (vs.idxOf? p) c) (a.put (some p) v) (by simpa using h1) (by simpa using h2) (fun i c hc => by simpa using h3 (i + 1) c (by simpa using hc)) (fun t ht => by rw [put_size]; exact h4 t (List.mem_cons_of_mem _ ht)) hp
    rw [put_size] at this
    exact this
theorem gho_ps : ∀ {ps : List Tmp} {args vars : List PV}, gho vs (setPs vars (ps.map fun t => vs.idxOf? t) args) = gho vs vars
  | [], args, vars => by cases args <;> rfl
  | p :: ps, [], vars => rfl
  | p :: ps, c :: args, vars => by
    show gho vs (setPs (setO vars (vs.idxOf? p) c) (ps.map fun t => vs.idxOf? t) args) = _
    rw [gho_ps]
    exact gho_set (d := some p)
def stc : Option XExit → LoopState × Option Code
  | none => (.ready, none)
  | some .ret => (.done, some .ret)
  | some (.exit id) => (.done, some (.exit id))
  | some .normal => (.done, some .skip)
theorem stc_some (p : Option XExit) : (stc p).2.isNone = p.isNone ∧ (if (stc p).2.isNone then LoopState.ready else LoopState.done) = (stc p).1 ∧ (stc p).1 ≠ .busy := by
  rcases p with _ | e
  · exact ⟨rfl, rfl, by simp [stc]⟩
  · cases e <;> exact ⟨rfl, rfl, by simp [stc]⟩
theorem run_callf {f : FuncId} {vc args : Array Value} (hf : callable P f = true) : (invoke (.fn (.func f) vc) args).run P w = .ok (.enter f (args ++ vc)) w := by
  unfold callable at hf
  split at hf
  · rename_i fn hfn
    simp only [Bool.and_eq_true, Bool.not_eq_true'] at hf
    obtain ⟨h1, h2⟩ := hf
    have h3 : ¬ fn.body = none := fun e => by rw [e] at h2; cases h2
    have h4 : ¬ fn.name = "runtime.NumGoroutine" := by simpa using h1
    simp [invoke, callFunc, hfn, h3, h4]
  · cases hf
/-- what is known in a round: the loop's record is as st -/
def roundA {B : Nat} (W0 : Anch B) (gp : PV) (G1 : Gh) (h1 : Heap) (w1 : World) (l : Nat) (hm1 : W0.m ≤ w1.heap.size) (hl : l < w1.heap.size) (st : Loop) : Anch B :=
  ⟨w1.heap.size, fun _ G' h' w' => Ext G1 h1 w1 G' h' w' ∧ W0.psi gp G' h' w' ∧ w'.heap[l]? = some (.loop st) ∧ KD w1 w' ∧ w1.heap.size ≤ w'.heap.size, fun h => h.2.2.2.2,
    fun h x b => ⟨h.1.trans x, W0.step h.2.1 x b, b.same _ _ h.2.2.1 rfl, h.2.2.2.1.trans (KD.bl b), Nat.le_trans h.2.2.2.2 b.size⟩,
    fun r h s => ⟨h.1.trans (r.cells (by rw [s.size]; exact Nat.le_refl _) s.cells).2, W0.shut r h.2.1 (s.mono hm1), (s.low _ hl).trans h.2.2.1,
      fun k hk => (s.low k (Array.getElem?_eq_some_iff.1 hk).1).trans (h.2.2.2.1 k hk), by rw [s.size]; exact h.2.2.2.2⟩⟩
/-- what the loop knows of the world -/
def loopPsi {B : Nat} (W0 : Anch B) (gp : PV) (G : Gh) (h : Heap) (W1 : World) (l : Nat) (rec : LoopState → Option Code → Loop) : Option XExit → Gh → Heap → World → Prop := fun p G' h' w' =>
  Ext G h W1 G' h' w' ∧ W0.psi gp G' h' w' ∧ w'.heap[l]? = some (.loop (rec (stc p).1 (stc p).2)) ∧ KD W1 w'
/-- ONE ROUND -/
theorem round_sound (hm : P.follows .mixedOrders = true) (hn : vs.Nodup) {ps : Array Tmp} {a b : Code} {k k1 k2 : Nat} {x y : XCode} (ha : compCode P vs N k a = some (stripF x, k1)) (hb : compCode P vs N k1 b = some (stripF y, k2)) (hra : noR a = true) (hrb : noR b = true) (hps : ps.all (Nat.blt · N) = true)
    {W0 : Anch B} {vars : List PV} {act : Act} (i3 : act.tmps.size = N) {W1 : World} {l : Nat} (hl : W0.m ≤ l) {fn : FuncId} {dfs : Nat} {rec : LoopState → Option Code → Loop} (hrec : rec = fun st pe => { state := st, pending := pe, fn, tmps := act.tmps, params := ps, assign := a, body := b, defers := dfs }) (hv : VarsR G h W1 vs vars act)
    {args : List PV} {h1 : Heap} {k0 : Option XExit → Heap → Prop} (hlen : args.length = (ps.toList.map fun t => vs.idxOf? t).length) (hxa : xwp (fns P) x (xasg fun vs2 h2 => xwp (fns P) y (fun e _ h3 => k0 (pend e) h3) vs2 h2) (setPs vars (ps.toList.map fun t => vs.idxOf? t) args) h1)
    {G1 : Gh} {w1 : World} {va : Array Value} (r1 : HRep B Z0 G1 h1 w1) (hψ : loopPsi W0 (gho vs vars) G h W1 l rec none G1 h1 w1) (hva : LRep (VRep G1 h1 w1 D) va args) (n : Nat) : YieldAt (fz none) n P l va w1 (ItR B Z0 (loopPsi W0 (gho vs vars) G h W1 l rec) k0 G1 h1 w1) := by
  obtain ⟨p1, p2, p3, p4⟩ := hψ
  have hlen' : args.length = ps.toList.length := by simpa using hlen
  have hy := run_yield (P := P) (args := va) p3 (by rw [hrec]; have := hva.1; simp [stc]; simp at hlen'; omega)
  rw [hrec] at hy
  simp only [stc] at hy
  refine ⟨fn, _, a, b, hy, roundIn_of_wpIn (F := fz none) trivial ?_⟩
  show a.wpIn (fz (some l)) n P _ _ w1
  have hpsN : ∀ t ∈ ps.toList, t < N := fun t ht => by
    have := Array.all_eq_true'.1 hps t (by simpa using ht)
    simpa [Nat.blt_eq] using this
  have v0 : VarsR G1 h1 w1 vs vars { tmps := act.tmps, defers := [] } := fun k s hk => by
    obtain ⟨v, q1, q2⟩ := hv k s hk
    exact ⟨v, q1, q2.ext p1⟩
  obtain ⟨v1, v2⟩ := varsR_ps hn ps.toList va.toList args vars { tmps := act.tmps, defers := [] } hlen' (by simpa using hva.1) (fun i c hc => by
    obtain ⟨u, q1, q2⟩ := hva.2 i c hc
    exact ⟨u, by simpa using q1, q2⟩) (fun t ht => by have := hpsN t ht; rw [← i3] at this; exact this) v0
  have hfold : ((ps.zip va).foldl (fun tmps x => match x with | (t, a) => tmps.setIfInBounds t a) act.tmps) = (ps.toList.zip va.toList).foldl (fun t x => t.setIfInBounds x.1 x.2) act.tmps := by
    rw [← Array.foldl_toList, Array.toList_zip]
  rw [hfold]
  have hlw : l < w1.heap.size := (Array.getElem?_eq_some_iff.1 p3).1
  have hm1 : W0.m ≤ w1.heap.size := by omega
  have hput : ∀ {w1 : World} {r : Loop} (o : Loop), w1.heap[l]? = some (.loop r) → Shut W0.m w1 (w1.putObj l (.loop o)) := fun o h => Shut.put h rfl hl
  refine code_soundF (W0 := roundA W0 (gho vs vars) G1 h1 w1 l hm1 hlw (rec .ready none)) (FN := fns P) (ρ := some l) hm hn rfl rfl fyI_ok a hra k k1 x ha _ _ _ _ _ _ hxa ⟨G1, r1, v1, by rw [v2]; exact i3, DefOk.nil, Ext.refl, p2, p3, KD.refl _, Nat.le_refl _⟩ ?_
  intro e vars1 h2 a2 w2 hi2 he
  cases e with
  | exit id => exact he.elim
  | ret => exact he.elim
  | normal =>
    obtain ⟨G2, s1, s2, s3, s4, t1, t2, t3, t4, t5⟩ := hi2
    refine ⟨_, run_beginRound t3 (by rw [hrec]), ?_⟩
    show b.wpIn (fz (some l)) n P _ a2 _
    obtain ⟨w2', hw2'⟩ : ∃ w2', w2.putObj l (.loop { rec .ready none with state := .busy }) = w2' := ⟨_, rfl⟩
    have hs : Shut W0.m w2 w2' := by rw [← hw2']; exact hput _ t3
    have hkd : KD w2 w2' := by rw [← hw2']; exact KD.put t3
    obtain ⟨c1, cx⟩ := s1.cells (w' := w2') (by rw [hs.size]; exact Nat.le_refl _) hs.cells
    rw [hw2']
    refine code_soundF (W0 := roundA W0 (gho vs vars) G1 h1 w1 l hm1 hlw { rec .ready none with state := .busy }) (FN := fns P) (ρ := some l) hm hn rfl rfl fyI_ok b hrb k1 k2 y hb _ _ _ _ _ _ he ⟨G2, c1, fun k s hk => by
        obtain ⟨v, q1, q2⟩ := s2 k s hk
        exact ⟨v, q1, q2.ext cx⟩, s3, s4.kd hkd, t1.trans cx, W0.shut s1 t2 hs, by rw [← hw2']; exact World.putObj_heap_same (Array.getElem?_eq_some_iff.1 t3).1, t4.trans hkd, by rw [hs.size]; exact t5⟩ ?_
    intro e vars2 h3 a3 w3 hi3 he3
    obtain ⟨G3, u1, u2, u3, u4, e1, e2, e3, e4, e5⟩ := hi3
    have fin : ∀ p, k0 p h3 → ∃ v w', (Instr.endRound l (stc p).2).run P w3 = .ok v w' ∧ ItR B Z0 (loopPsi W0 (gho vs vars) G h W1 l rec) k0 G1 h1 w1 (.returned v) w' := fun p hk => by
      obtain ⟨f1, f2, f3⟩ := stc_some p
      have hr := run_endRound (P := P) (stc p).2 e3
      obtain ⟨w4, hw4⟩ : ∃ w4, w3.putObj l (.loop (rec (stc p).1 (stc p).2)) = w4 := ⟨_, rfl⟩
      have hs4 : Shut W0.m w3 w4 := by rw [← hw4]; exact hput _ e3
      have hkd4 : KD w3 w4 := by rw [← hw4]; exact KD.put e3
      obtain ⟨d1, dx⟩ := u1.cells (w' := w4) (by rw [hs4.size]; exact Nat.le_refl _) hs4.cells
      refine ⟨_, w4, by rw [hr, ← hw4, f2, hrec], p, h3, G3, by rw [f1], hk, d1, e1.trans dx, ?_, by rw [hs4.size]; exact e5, fun m ds hd => hd.kd (e4.trans hkd4)⟩
      exact ⟨p1.trans (e1.trans dx), W0.shut u1 e2 hs4, by rw [← hw4]; exact World.putObj_heap_same (Array.getElem?_eq_some_iff.1 e3).1, p4.trans (e4.trans hkd4)⟩
    cases e with
    | normal => exact fin none he3
    | ret => exact fin (some .ret) he3
    | exit id => exact fin (some (.exit id)) he3
/-- A LOOP OVER A FUNCTION -/
theorem range_sound (hm : P.follows .mixedOrders = true) (hn : vs.Nodup) {g : Operand} {ps : Array Tmp} {a b : Code} {k k1 k2 : Nat} {x y : XCode} {gd : Opd} (ha : compCode P vs N k a = some (stripF x, k1)) (hb : compCode P vs N k1 b = some (stripF y, k2)) (hg : rdOp vs [] 0 g = some gd) (hra : noR a = true) (hrb : noR b = true) (hps : ps.all (Nat.blt · N) = true)
    {W0 : Anch B} {nn : Nat} {Q' : XPost} {Q : Exit → Act → World → Prop} {vars : List PV} {act : Act} (hx : xwp (fns P) (.rfor gd (ps.toList.map fun t => vs.idxOf? t) x y) Q' vars h) (hi : SInv B Z0 W0 vs N vars h act w) (hq : PostR B Z0 W0 vs N Q' Q) : (Code.rangeFunc g ps a b).wpIn (fz none) nn P Q act w := by
  obtain ⟨G, i1, i2, i3, i4, i5⟩ := hi
  simp only [xwp] at hx
  obtain ⟨f, cap, hv, hcal, hone, hit⟩ := (show IT P _ _ _ _ from hx)
  have hgv := cond_rep hg i2
  rw [hv] at hgv
  unfold D at hgv; unfold VRep at hgv
  obtain ⟨vf, vc, hgv, hf0, hc0⟩ := hgv
  have hvf : vf = #[] := Array.eq_empty_of_size_eq_zero (by simpa using hf0.1)
  subst hvf
  refine wpIn_rangeFunc fun fn hfn => ?_
  obtain ⟨rec, hrec⟩ : ∃ rec : LoopState → Option Code → Loop, rec = fun st pe => { state := st, pending := pe, fn, tmps := act.tmps, params := ps, assign := a, body := b, defers := w.heap.size } := ⟨_, rfl⟩
  obtain ⟨W1, hW1⟩ : ∃ W1, (w.alloc (.deferred (some []))).alloc (.loop (rec .ready none)) = W1 := ⟨_, rfl⟩
  have hL1 : W1.heap[w.heap.size + 1]? = some (.loop (rec .ready none)) := by
    rw [← hW1]; have := World.alloc_heap_new (w.alloc (.deferred (some []))) (.loop (rec .ready none)); rwa [World.size_alloc] at this
  have hK1 : W1.heap[w.heap.size]? = some (.deferred (some [])) := by
    rw [← hW1]; exact (Below.heap_alloc _ _ _ (by simp)).trans (World.alloc_heap_new w _)
  have hsz1 : W1.heap.size = w.heap.size + 2 := by rw [← hW1]; simp
  have hbl1 : Bl B w W1 := by rw [← hW1]; exact ((Bl.refl B w).alloc i1.base _).alloc (by have := i1.base; simp; omega) _
  have hcell1 : ∀ b, isC w b → W1.heap[b]? = w.heap[b]? := fun b hb => by
    rw [← hW1]; exact (Below.heap_alloc _ _ _ (by have := hb.lt; simp; omega)).trans (Below.heap_alloc _ _ _ hb.lt)
  obtain ⟨j1, jx⟩ := i1.cells (w' := W1) hbl1.size hcell1
  have j5 := W0.step i5 jx hbl1
  have hmw := W0.ms i5
  obtain ⟨l, hl⟩ : ∃ l, w.heap.size + 1 = l := ⟨_, rfl⟩
  rw [hl] at hL1
  have hstep : ∀ {p : Option XExit} {G2 : Gh} {h2 : Heap} {w2 : World} {G' : Gh} {h' : Heap} {w' : World}, loopPsi W0 (gho vs vars) G h W1 l rec p G2 h2 w2 → Ext G2 h2 w2 G' h' w' → Bl B w2 w' → loopPsi W0 (gho vs vars) G h W1 l rec p G' h' w' := by
    intro p G2 h2 w2 G' h' w' hp hx hb'
    exact ⟨hp.1.trans hx, W0.step hp.2.1 hx hb', hb'.same _ _ hp.2.2.1 rfl, hp.2.2.2.trans (KD.bl hb')⟩
  have hshut : ∀ {Z1 : Nat → Prop} {p : Option XExit} {G2 : Gh} {h2 : Heap} {w1 w2 : World}, HRep B Z1 G2 h2 w1 → loopPsi W0 (gho vs vars) G h W1 l rec p G2 h2 w1 → Shut W1.heap.size w1 w2 → loopPsi W0 (gho vs vars) G h W1 l rec p G2 h2 w2 := by
    intro Z1 p G2 h2 w1 w2 hr hp hs
    exact ⟨hp.1.trans (hr.cells (by rw [hs.size]; exact Nat.le_refl _) hs.cells).2, W0.shut hr hp.2.1 (hs.mono (by omega)), (hs.low _ (by omega)).trans hp.2.2.1, fun k hk => (hs.low k (Array.getElem?_eq_some_iff.1 hk).1).trans (hp.2.2.2 k hk)⟩
  have hΨ0 : loopPsi W0 (gho vs vars) G h W1 l rec none G h W1 := ⟨Ext.refl, j5, hL1, KD.refl _⟩
  have hv1 : VarsR G h W1 vs vars act := fun k s hk => by
    obtain ⟨v, q1, q2⟩ := i2 k s hk
    exact ⟨v, q1, q2.ext jx⟩
  have hvc : LRep (VRep G h W1 D) vc cap := (lrep_ones hc0 hone).mono fun _ _ q => q.ext jx
  have hY : ∀ {args : List PV} {h1 : Heap} {k0 : Option XExit → Heap → Prop}, (args.length = (ps.toList.map fun t => vs.idxOf? t).length ∧ xwp (fns P) x (xasg fun vs2 h2 => xwp (fns P) y (fun e _ h3 => k0 (pend e) h3) vs2 h2) (setPs vars (ps.toList.map fun t => vs.idxOf? t) args) h1) →
      ∀ {G1 : Gh} {w1 : World} {va : Array Value}, HRep B Z0 G1 h1 w1 → loopPsi W0 (gho vs vars) G h W1 l rec none G1 h1 w1 → LRep (VRep G1 h1 w1 D) va args → ∀ n, YieldAt (fz none) n P l va w1 (ItR B Z0 (loopPsi W0 (gho vs vars) G h W1 l rec) k0 G1 h1 w1) := by
    intro args h1 k0 hy G1 w1 va r1 hψ hva n
    exact round_sound hm hn ha hb hra hrb hps i3 (by omega) hrec hv1 hy.1 hy.2 r1 hψ hva n
  have hcalls := hit B Z0 G W1 vc l (loopPsi W0 (gho vs vars) G h W1 l rec) j1 hvc hstep hshut hY hΨ0
  refine ⟨l, [{ target := .collected w.heap.size, args := #[] }], W1, { target := .fn (.func f) vc, args := #[.func (.yield l) #[] #[]] }, W1, f, #[.func (.yield l) #[] #[]] ++ vc, W1, ?_, ?_, fun _ _ => trivial, ?_, fun e => (by cases e), ?_⟩
  · rw [← hW1, hrec, ← hl]; exact run_enterLoop_outer _ _ _ _ _
  · simp only [resolve, hgv]
    simp [go_sem]
  · exact run_callf hcal
  refine callsIn_fz.2 (Calls.mono hcalls ?_)
  rintro e w' ⟨u, p, h', G', rfl, hK, r1, x1, p1, p2, p3, p4⟩
  have hend := run_endLoop (P := P) p3 (by rw [hrec]; exact (stc_some p).2.2)
  obtain ⟨w4, hw4⟩ : ∃ w4, w'.putObj l (.loop { rec (stc p).1 (stc p).2 with state := .exhausted }) = w4 := ⟨_, rfl⟩
  have hs4 : Shut W0.m w' w4 := by rw [← hw4]; exact Shut.put p3 rfl (by omega)
  have hkd4 : KD w' w4 := by rw [← hw4]; exact KD.put p3
  obtain ⟨d1, dx⟩ := r1.cells (w' := w4) (by rw [hs4.size]; exact Nat.le_refl _) hs4.cells
  have hi' : SInv B Z0 W0 vs N vars h' { act with defers := [{ target := .collected w.heap.size, args := #[] }] ++ act.defers } w4 := by
    refine ⟨G', d1, fun k s hk => ?_, i3, ?_, W0.shut r1 p2 hs4⟩
    · obtain ⟨v, q1, q2⟩ := i2 k s hk
      exact ⟨v, q1, ((q2.ext jx).ext p1).ext dx⟩
    · obtain ⟨Ds, m1, m2, m3⟩ := i4
      refine ⟨w.heap.size :: Ds, List.nodup_cons.2 ⟨fun hm => ?_, m1⟩, by simp [m2], fun D' hD' => ?_⟩
      · have := (Array.getElem?_eq_some_iff.1 (m3 _ hm).2).1; omega
      · rcases List.mem_cons.1 hD' with rfl | hD'
        · exact ⟨hmw, hkd4 _ (p4 _ hK1)⟩
        · exact ⟨(m3 D' hD').1, hkd4 _ (p4 _ (KD.bl hbl1 _ (m3 D' hD').2))⟩
  refine ⟨_, w4, by rw [hend, hw4], ?_⟩
  rw [hrec]
  rcases p with _ | e
  · exact hq .normal _ _ _ _ hi' hK
  · cases e with
    | normal => exact wpIn_skip (hq .normal _ _ _ _ hi' hK)
    | ret => exact wpIn_ret (hq .ret _ _ _ _ hi' hK)
    | exit id => exact wpIn_exit (hq (.exit id) _ _ _ _ hi' hK)
theorem stripF_comp : ∀ {c : Code} {k k' : Nat} {x : XCode}, compCode P vs N k c = some (x, k') → stripF x = x := by
  intro c
  induction c with
  | region id ops d =>
    intro k k' x hc
    simp only [compCode] at hc
    split at hc
    · cases hc; rfl
    · cases hc
  | seq a b iha ihb =>
    intro k k' x hc
    simp only [compCode] at hc
    split at hc
    · rename_i h1
      split at hc
      · rename_i h2
        cases hc
        simp only [stripF, iha h1, ihb h2]
      · cases hc
    · cases hc
  | cond cd a b iha ihb =>
    intro k k' x hc
    simp only [compCode] at hc
    split at hc
    · rename_i h1
      split at hc
      · rename_i h2
        split at hc
        · cases hc
          simp only [stripF, iha h1, ihb h2]
        · cases hc
      · cases hc
    · cases hc
  | block id b ih =>
    intro k k' x hc
    simp only [compCode] at hc
    split at hc
    · rename_i h1; cases hc; simp only [stripF, ih h1]
    · cases hc
  | loop b ih =>
    intro k k' x hc
    simp only [compCode] at hc
    split at hc
    · rename_i h1; cases hc; simp only [stripF, ih h1]
    · cases hc
  | scope b ih => intro k k' x hc; exact ih (show compCode P vs N k b = _ from hc)
  | rangeFunc g ps a b iha ihb =>
    intro k k' x hc
    simp only [compCode] at hc
    split at hc
    · rename_i h1
      split at hc
      · rename_i h2
        split at hc
        · split at hc
          · cases hc
            simp only [stripF, iha h1, ihb h2]
          · cases hc
        · cases hc
      · cases hc
    · cases hc
  | skip => intro k k' x hc; simp only [compCode, Option.some.injEq, Prod.mk.injEq] at hc; obtain ⟨rfl, _⟩ := hc; rfl
  | label => intro k k' x hc; simp only [compCode, Option.some.injEq, Prod.mk.injEq] at hc; obtain ⟨rfl, _⟩ := hc; rfl
  | exit => intro k k' x hc; simp only [compCode, Option.some.injEq, Prod.mk.injEq] at hc; obtain ⟨rfl, _⟩ := hc; rfl
  | ret => intro k k' x hc; simp only [compCode, Option.some.injEq, Prod.mk.injEq] at hc; obtain ⟨rfl, _⟩ := hc; rfl
  | _ => intro k k' x hc; simp only [compCode] at hc; cases hc
/-- CODE of a function, loops over functions and all -/
theorem code_sound {W0 : Anch B} {nn : Nat} (hm : P.follows .mixedOrders = true) (hn : vs.Nodup) : ∀ (c : Code) (k k' : Nat) (x : XCode), compCode P vs N k c = some (x, k') → ∀ (Q' : XPost) (Q : Exit → Act → World → Prop) (vars : List PV) (h : Heap) (a : Act) (w : World),
    xwp (fns P) x Q' vars h → SInv B Z0 W0 vs N vars h a w → PostR B Z0 W0 vs N Q' Q → c.wpIn (fz none) nn P Q a w := by
  intro c
  induction c with
  | skip =>
    intro k k' x hc Q' Q vars h a w hx hi hq
    simp only [compCode, Option.some.injEq, Prod.mk.injEq] at hc
    obtain ⟨rfl, rfl⟩ := hc
    exact wpIn_skip (hq .normal _ _ _ _ hi hx)
  | label l =>
    intro k k' x hc Q' Q vars h a w hx hi hq
    simp only [compCode, Option.some.injEq, Prod.mk.injEq] at hc
    obtain ⟨rfl, rfl⟩ := hc
    exact wpIn_label (hq .normal _ _ _ _ hi hx)
  | exit id =>
    intro k k' x hc Q' Q vars h a w hx hi hq
    simp only [compCode, Option.some.injEq, Prod.mk.injEq] at hc
    obtain ⟨rfl, rfl⟩ := hc
    exact wpIn_exit (hq (.exit id) _ _ _ _ hi hx)
  | ret =>
    intro k k' x hc Q' Q vars h a w hx hi hq
    simp only [compCode, Option.some.injEq, Prod.mk.injEq] at hc
    obtain ⟨rfl, rfl⟩ := hc
    exact wpIn_ret (hq .ret _ _ _ _ hi hx)
  | region id ops d =>
    intro k k' x hc Q' Q vars h a w hx hi hq
    simp only [compCode] at hc
    split at hc
    · rename_i xs k1 hc0
      cases hc
      obtain ⟨hsi, hx⟩ := hx
      rw [show ops = ops.toList.toArray by simp]
      cases d with
      | false => exact plain_sound rfl rfl fyI_ok hn hc0 hsi hx (fun st a w hi hq' => hq .normal _ _ _ _ hi hq') hi
      | true => exact drawn_sound hm hn hc0 hsi hx (fun st a w hi hq' => hq .normal _ _ _ _ hi hq') hi
    · cases hc
  | seq c1 c2 ih1 ih2 =>
    intro k k' x hc Q' Q vars h a w hx hi hq
    simp only [compCode] at hc
    split at hc
    · rename_i x1 k1 h1
      split at hc
      · rename_i x2 k2 h2
        cases hc
        refine wpIn_seq (ih1 _ _ _ h1 _ _ _ _ _ _ hx hi fun e vars h a w hi he => ?_)
        cases e with
        | normal => exact ih2 _ _ _ h2 _ _ _ _ _ _ he hi hq
        | exit id => exact hq (.exit id) _ _ _ _ hi he
        | ret => exact hq .ret _ _ _ _ hi he
      · cases hc
    · cases hc
  | cond cd c1 c2 ih1 ih2 =>
    intro k k' x hc Q' Q vars h a w hx hi hq
    simp only [compCode] at hc
    split at hc
    · rename_i x1 k1 h1
      split at hc
      · rename_i x2 k2 h2
        split at hc
        · rename_i dd hdd
          cases hc
          obtain ⟨G, i1, i2, i3⟩ := id hi
          have hr := cond_rep hdd i2
          simp only [xwp] at hx
          split at hx
          · rename_i he
            rw [he] at hr
            exact wpIn_cond_true (rep_bool hr) (ih1 _ _ _ h1 _ _ _ _ _ _ hx hi hq)
          · rename_i he
            rw [he] at hr
            exact wpIn_cond_false (rep_bool hr) (ih2 _ _ _ h2 _ _ _ _ _ _ hx hi hq)
          · exact hx.elim
        · cases hc
      · cases hc
    · cases hc
  | block id c ih =>
    intro k k' x hc Q' Q vars h a w hx hi hq
    simp only [compCode] at hc
    split at hc
    · rename_i x1 k1 h1
      cases hc
      refine wpIn_block (ih _ _ _ h1 _ _ _ _ _ _ hx hi fun e vars h a w hi he => ?_)
      cases e with
      | normal => exact hq .normal _ _ _ _ hi he
      | exit i =>
        simp only [xin] at he
        show Exit.inBlock id Q (.exit i) a w
        simp only [Exit.inBlock]
        split at he
        · rename_i e; rw [if_pos e]; exact hq .normal _ _ _ _ hi he
        · rename_i e; rw [if_neg e]; exact hq (.exit i) _ _ _ _ hi he
      | ret => exact hq .ret _ _ _ _ hi he
    · cases hc
  | loop c ih =>
    intro k k' x hc Q' Q vars h a w hx hi hq
    simp only [compCode] at hc
    split at hc
    · rename_i x1 k1 h1
      cases hc
      obtain ⟨n, hx⟩ := hx
      refine wpIn_loop_rounds n ?_
      induction n generalizing vars h a w with
      | zero => exact hx.elim
      | succ n ihn =>
        refine ih _ _ _ h1 _ _ _ _ _ _ hx hi fun e vars h a w hi he => ?_
        cases e with
        | normal => exact ihn _ _ _ _ hi he
        | exit id => exact hq (.exit id) _ _ _ _ hi he
        | ret => exact hq .ret _ _ _ _ hi he
    · cases hc
  | scope c ih =>
    intro k k' x hc Q' Q vars h a w hx hi hq
    simp only [compCode] at hc
    refine wpIn_scope_straight (ih _ _ _ hc _ _ _ _ _ _ hx hi fun e vars h a w hi he => ?_)
    cases e with
    | normal => exact hq .normal _ _ _ _ hi he
    | exit id => exact hq (.exit id) _ _ _ _ hi he
    | ret => exact hq .ret _ _ _ _ hi he
  | rangeFunc g ps a b iha ihb =>
    intro k k' x hc Q' Q vars h act w hx hi hq
    simp only [compCode] at hc
    split at hc
    · rename_i x1 k1 h1
      split at hc
      · rename_i x2 k2 h2
        split at hc
        · rename_i gd hgd
          split at hc
          · rename_i hcond
            cases hc
            simp only [Bool.and_eq_true] at hcond
            exact range_sound hm hn (by rw [stripF_comp h1]; exact h1) (by rw [stripF_comp h2]; exact h2) hgd hcond.1.1 hcond.1.2 hcond.2 hx hi hq
          · cases hc
        · cases hc
      · cases hc
    · cases hc
  | _ =>
    intro k k' x hc
    simp only [compCode] at hc
    cases hc
end
end Go.Proofs.Ytalgbgeocpbadaa.Am
