/-
  What is passed to a call, and what comes back.
-/
import Derived.Test.YtalgbgeocpbadaaAmN
namespace Go.Proofs.Ytalgbgeocpbadaa.Am
set_option linter.unusedSimpArgs false
set_option linter.unusedVariables false
set_option linter.unusedSectionVars false
open Go.RowKit
/-- nothing is the call's own -/
def G0 (Z : Nat → Prop) : Gh := { β := fun _ => 0, R := fun _ => False, γ := fun _ => 0, σ := fun _ => 0, Z := Z }
section
variable {P : Program} {B : Nat} {Z0 : Nat → Prop} {G G' : Gh} {h h' : Heap} {w w' : World}
theorem own_slc (hr : HRep B Z0 G h w) {Z' : Nat → Prop} (hz : ∀ b, G.Z b → Z' b) {k g gl s o l ver : Nat} {fr : Bool} {es : List PV} {v : Value} (hh : h[k]? = some (g, .arr s ver fr es)) (hgl : es.length = gl) (hol : o + l ≤ gl) (hp : es.all noRefE = true)
    (hk : ∀ y, G.R (k, y) → Z' (G.β (k, y))) (hv : VRep G h w D v (.own k g gl s o l)) : PR Z' w v (.slc (((es.drop o).take l).map frzE)) := by
  have hob := hr.ob k _ _ hh
  unfold ORep at hob
  obtain ⟨o1, o2, o3, o4, o5⟩ := hob
  unfold D at hv; unfold VRep at hv
  obtain ⟨a, c, rfl, q1, q2, q3, gn, ob, q4, q5, q6⟩ := hv
  rw [hh] at q4; cases q4
  obtain ⟨_, q7⟩ := q6 rfl _ _ _ _ rfl
  obtain ⟨_, q8, q9⟩ := q7 hgl
  have hlen : (((es.drop o).take l).map frzE).length = l := by simp; omega
  by_cases hl0 : l = 0
  · subst hl0
    refine PR.slc_iff.2 ⟨a, c, 0, by simp, by simp, q2, ?_, fun i e he => by simp at he⟩
    rcases q3 with ⟨_, h1⟩ | ⟨b, f, h1⟩
    · exact fun _ => h1
    · intro h2; rw [h1] at h2; cases h2
  · have hR : G.R (root k) := Classical.byContradiction fun hn => by
      have := o5 hn; subst this; simp at hgl; omega
    obtain ⟨us, T, o6, o7, o8⟩ := o4 hR
    obtain ⟨f, rfl, q10, _⟩ := q8 hR
    have hf : f = o * s := by
      rcases q10 with q10 | q10
      · omega
      · exact q10 rfl
    refine PR.slc_iff.2 ⟨some ⟨G.β (root k), f, none⟩, c, s, by rw [hlen], by rw [hlen]; exact q1, q2, fun e => absurd e (by simp), fun i e he => ?_⟩
    have hil : i < l := by rw [← hlen]; exact (List.getElem?_eq_some_iff.1 he).1
    rw [List.getElem?_map, List.getElem?_take, if_pos hil, List.getElem?_drop] at he
    obtain ⟨e0, he0, rfl⟩ := Option.map_eq_some_iff.1 he
    obtain ⟨o9, o10⟩ := o8 _ e0 he0
    rw [ecells_frz]
    refine ⟨by simpa using o9, _, _, rfl, hk none hR, fun j cc hc => ?_⟩
    rw [List.getElem?_map] at hc
    obtain ⟨c0, hc0, rfl⟩ := Option.map_eq_some_iff.1 hc
    obtain ⟨u, o11, o12⟩ := o10 j c0 hc0
    have hnr : (pureC c0 || isU c0) = true := List.all_eq_true.1 (show (ecells e0).all (fun c => pureC c || isU c) = true from List.all_eq_true.1 hp e0 (List.mem_of_getElem? he0)) c0 (List.mem_of_getElem? hc0)
    obtain ⟨o13, o14⟩ := crep_frz hz (fun hR' => hk _ hR') hnr o12
    refine ⟨o13, u, ?_, o14⟩
    rw [block_cell o6, hf, show o * s + (i * s + j) = (o + i) * s + j by rw [Nat.add_mul]; omega]; exact o11
theorem nown_slc (hr : HRep B Z0 G h w) {Z' : Nat → Prop} (hz : ∀ b, G.Z b → Z' b) {k g s ver i j l : Nat} {fr : Bool} {es : List PV} {e : PV} {ns : List PV} {v : Value} (hh : h[k]? = some (g, .arr s ver fr es)) (he : es[i]? = some e) (hns : (ecells e)[j]? = some (.uslc ns)) (hl : l ≤ ns.length)
    (hk : ∀ y, G.R (k, y) → Z' (G.β (k, y))) (hv : VRep G h w D v (.nown k g ver i j 0 l)) : PR Z' w v (.slc (ns.take l)) := by
  unfold D at hv; unfold VRep at hv
  obtain ⟨a, c, rfl, q1, q2, q3, gn, ob, q4, q5, q6⟩ := hv
  rw [hh] at q4; cases q4
  obtain ⟨_, q7⟩ := q6 rfl _ _ _ _ rfl
  obtain ⟨ns', hns', q8, q9, q10⟩ := q7 rfl
  rw [cellAt_some he hns] at hns'; cases hns'
  have hlen : (ns.take l).length = l := by simp; omega
  by_cases hl0 : l = 0
  · subst hl0
    refine PR.slc_iff.2 ⟨a, c, 0, by simp, by simp, q2, ?_, fun i e he => by simp at he⟩
    rcases q3 with ⟨_, h1⟩ | ⟨b, f, h1⟩
    · exact fun _ => h1
    · intro h2; rw [h1] at h2; cases h2
  · obtain ⟨hR, us, T, h5, h6, h7, h8⟩ := ob_at hr hh he
    obtain ⟨u0, h9, h10⟩ := h8 j _ hns
    unfold CRep NRep at h10
    have hRn : G.R (nest k i j) := Classical.byContradiction fun hc => by
      obtain ⟨_, rfl⟩ := h10.2 hc
      simp at hl; omega
    obtain ⟨us2, T2, ff, cc, _, _, h11, h12, h12', h13, h14, h15, h16⟩ := h10.1 hRn
    obtain ⟨f, rfl, q11⟩ := q9 hRn
    have hf : f = 0 := by
      rcases q11 with q11 | q11
      · omega
      · simpa using q11
    subst hf
    refine PR.slc_iff.2 ⟨some ⟨G.β (nest k i j), 0, none⟩, c, G.σ (nest k i j), by rw [hlen], by rw [hlen]; exact q1, q2, fun e => absurd e (by simp), fun a d hd => ?_⟩
    have hal : a < l := by rw [← hlen]; exact (List.getElem?_eq_some_iff.1 hd).1
    rw [List.getElem?_take, if_pos hal] at hd
    obtain ⟨p1, p2⟩ := h16 a d hd
    refine ⟨p1, _, _, rfl, hk _ hRn, fun t x hx => ?_⟩
    obtain ⟨p3, u, p4, p5⟩ := p2 t x hx
    refine ⟨p3, u, ?_, p5.mono hz fun _ _ => rfl⟩
    rw [block_cell h13, Nat.zero_add]; exact p4
/-- a cell that is passed -/
theorem fzC_rep (hr : HRep B Z0 G h w) {Z' : Nat → Prop} (hz : ∀ b, G.Z b → Z' b) {hide : List Nat} {n : Nat} {v : Value} {p : PV} (hk : hasOwnC (lkOf h hide) p = true → ∀ key, G.R key → Z' (G.β key)) (hn : (∀ cs, p ≠ .agg cs) ∧ (∀ cs, p ≠ .tup cs) ∧ ∀ f a b, p ≠ .fn f a b) (hv : VRep G h w n v p) (m : Nat) : VRep (G0 Z') [] w m v (fzC (lkOf h hide) p) := by
  have hvD : VRep G h w D v p := hv.cell hn
  cases p <;> simp only [fzC] <;> (try exact mk_undef)
  case bool => obtain rfl := rep_bool hv; exact mk_bool
  case int => obtain rfl := rep_int hv; exact mk_int
  case str => obtain rfl := rep_str hv; exact mk_str
  case lit => unfold D at hvD; unfold VRep at hvD; cases m <;> (unfold VRep; exact hvD)
  case nils => obtain rfl := rep_nils hv; exact mk_slc (PR.slc_iff.2 ⟨none, 0, 0, rfl, Nat.le_refl _, Nat.zero_le _, fun _ => rfl, fun i e he => by simp at he⟩)
  case slc es => exact mk_slc ((rep_slc hv).mono hz fun _ _ => rfl)
  case own k g gl s o l =>
    split
    · rename_i g' s' ver fr es hlk
      split
      · rename_i hc
        obtain ⟨rfl, hgl, rfl, hol, hp⟩ := hc
        have hkk : ∀ y, G.R (k, y) → Z' (G.β (k, y)) := fun y hR => by
          cases fr with
          | true => exact hz _ (hr.fz k _ _ _ _ (lk_some hlk (by simp)) y hR)
          | false => exact hk (by simp [hasOwnC, hlk]) _ hR
        exact mk_slc (own_slc hr hz (lk_some hlk (by simp)) hgl hol hp hkk hvD)
      · exact mk_undef
    · exact mk_undef
  case nown k g ver i j o l =>
    split
    · rename_i g' s' ver' fr es hlk
      split
      · rename_i hc
        obtain ⟨rfl, rfl⟩ := hc
        split
        · rename_i e he
          split
          · rename_i ns hns
            split
            · rename_i hc2
              obtain ⟨rfl, hl⟩ := hc2
              exact mk_slc (nown_slc hr hz (lk_some hlk (by simp)) he hns hl (fun y hR => hk rfl _ hR) hvD)
            · exact mk_undef
          · exact mk_undef
        · exact mk_undef
      · exact mk_undef
    · exact mk_undef
theorem fzV_rep (hr : HRep B Z0 G h w) {Z' : Nat → Prop} (hz : ∀ b, G.Z b → Z' b) {hide : List Nat} {v : Value} {p : PV} (hk : hasOwn (lkOf h hide) p = true → ∀ key, G.R key → Z' (G.β key)) (hv : VRep G h w D v p) : VRep (G0 Z') [] w D v (fzV (lkOf h hide) p) := by
  cases p
  case agg cs =>
    obtain ⟨vs, rfl, h1, h2⟩ := rep_agg hv
    refine mk_agg ⟨by simpa using h1, fun i c hc => ?_⟩
    rw [List.getElem?_map] at hc
    obtain ⟨c0, hc0, rfl⟩ := Option.map_eq_some_iff.1 hc
    obtain ⟨u, h3, h4⟩ := h2 i c0 hc0
    refine ⟨u, h3, ?_⟩
    have hu : ∀ (c : PV), fzC (lkOf h hide) c = .undef → VRep (G0 Z') [] w 5 u (fzC (lkOf h hide) c) := fun c e => by rw [e]; exact mk_undef
    cases c0
    case agg | tup | fn => exact mk_undef
    all_goals exact fzC_rep (hide := hide) hr hz (fun ho => hk (List.any_eq_true.2 ⟨_, List.mem_of_getElem? hc0, ho⟩)) (by refine ⟨?_, ?_, ?_⟩ <;> intros <;> simp) h4 5
  case tup | fn => exact mk_undef
  all_goals exact fzC_rep (hide := hide) hr hz (fun ho => hk (by simpa [hasOwn, ecells] using ho)) (by refine ⟨?_, ?_, ?_⟩ <;> intros <;> simp) hv D
end
def resK (szs : List Nat) (p : Nat) : Nat × Nat := (p, szs.getD p 0)
/-- the objects of a result -/
def resH (szs : List Nat) (r : PV) : Heap := upd (List.replicate (rcells r).length (0, .dead)) (thWs (resK szs) (fun _ => 1) 0 (rcells r))
/-- WHAT A CALL GIVES: args are plain values; r may hold arrays of the caller's own ('uslc') -/
def callable (P : Program) (f : FuncId) : Bool := match P.funcs[f]? with
  | some fn => !(fn.name == "runtime.NumGoroutine") && fn.body.isSome
  | none => false
def Fn (P : Program) (f : FuncId) (szs : List Nat) (args : List PV) (r : PV) : Prop :=
  callable P f = true ∧ ∀ (w : World) (Z : Nat → Prop) (vargs : Array Value), (∀ b, Z b → isC w b) → LRep (VRep (G0 Z) [] w D) vargs args →
    Calls P f vargs w fun e w' => ∃ v G, e = .returned v ∧ Bl w.heap.size w w' ∧ HRep w.heap.size Z G (resH szs r) w' ∧ VRep G (resH szs r) w' D v (thV (resK szs) (fun _ => 1) r)
/-- what a call of a function value gives that shares the caller's memory -/
def FI (P : Program) (v : PV) (args : List PV) (h : Heap) (r : PV) (ws : List (Nat × Row)) : Prop :=
  ∃ f first cap, v = .fn (.func f) first cap ∧ callable P f = true ∧ (first.all one && cap.all one) = true ∧ ∀ (B : Nat) (Z0 : Nat → Prop) (G : Gh) (w : World) (vf va vc : Array Value), HRep B Z0 G h w → LRep (VRep G h w D) vf first → LRep (VRep G h w D) va args → LRep (VRep G h w D) vc cap →
    Calls P f (vf ++ va ++ vc) w fun e w' => ∃ u G', e = .returned u ∧ HRep B Z0 G' (upd h ws) w' ∧ Ext G h w G' (upd h ws) w' ∧ VRep G' (upd h ws) w' D u r ∧ Bl B w w'
/-- the fence of code that stands in a function (none) or in a loop over a function -/
def fz (ρ : Option Nat) : Fence := { Fence.wide with round := ρ }
/-- what a round gives -/
def ItR (B : Nat) (Z0 : Nat → Prop) (Ψ : Option XExit → Gh → Heap → World → Prop) (k : Option XExit → Heap → Prop) (G : Gh) (h : Heap) (w : World) : Ending → World → Prop := fun e w' =>
  ∃ p h' G', e = .returned (.bool p.isNone) ∧ k p h' ∧ HRep B Z0 G' h' w' ∧ Ext G h w G' h' w' ∧ Ψ p G' h' w' ∧ w.heap.size ≤ w'.heap.size ∧ ∀ m ds, DefOk m ds w → DefOk m ds w'
/-- WHAT A FUNCTION GIVES THAT IS LOOPED OVER: Y: what a round does; K: what is true in the end. Ψ: what the loop knows of the world -/
def IT (P : Program) (v : PV) (Y : YT) (h : Heap) (K : Option XExit → Heap → Prop) : Prop :=
  ∃ f cap, v = .fn (.func f) [] cap ∧ callable P f = true ∧ cap.all one = true ∧ ∀ (B : Nat) (Z0 : Nat → Prop) (G : Gh) (w : World) (vc : Array Value) (l : Nat) (Ψ : Option XExit → Gh → Heap → World → Prop),
    HRep B Z0 G h w → LRep (VRep G h w D) vc cap →
    (∀ {p : Option XExit} {G : Gh} {h : Heap} {w : World} {G' : Gh} {h' : Heap} {w' : World}, Ψ p G h w → Ext G h w G' h' w' → Bl B w w' → Ψ p G' h' w') →
    (∀ {Z1 : Nat → Prop} {p : Option XExit} {G : Gh} {h : Heap} {w1 w2 : World}, HRep B Z1 G h w1 → Ψ p G h w1 → Shut w.heap.size w1 w2 → Ψ p G h w2) →
    (∀ {args : List PV} {h1 : Heap} {k : Option XExit → Heap → Prop}, Y args h1 k → ∀ {G1 : Gh} {w1 : World} {va : Array Value}, HRep B Z0 G1 h1 w1 → Ψ none G1 h1 w1 → LRep (VRep G1 h1 w1 D) va args → ∀ n, YieldAt (fz none) n P l va w1 (ItR B Z0 Ψ k G1 h1 w1)) →
    Ψ none G h w →
    Calls P f (#[.func (.yield l) #[] #[]] ++ vc) w fun e w' => ∃ u p h' G', e = .returned u ∧ K p h' ∧ HRep B Z0 G' h' w' ∧ Ext G h w G' h' w' ∧ Ψ p G' h' w'
theorem IT.mono {P : Program} {v : PV} {Y : YT} {h : Heap} {K K' : Option XExit → Heap → Prop} (hk : ∀ p h, K p h → K' p h) (hi : IT P v Y h K) : IT P v Y h K' := by
  obtain ⟨f, cap, h1, h2, h3, h4⟩ := hi
  refine ⟨f, cap, h1, h2, h3, fun B Z0 G w vc l Ψ a1 a2 a3 a4 a5 a6 => (h4 B Z0 G w vc l Ψ a1 a2 a3 a4 a5 a6).mono ?_⟩
  rintro e w' ⟨u, p, h', G', b1, b2, b3⟩
  exact ⟨u, p, h', G', b1, hk _ _ b2, b3⟩
/-- a call of a function value, where what follows is asked for -/
def fyI (P : Program) : PV → List PV → List PV → Heap → (PV → List PV → Heap → Prop) → Prop := fun v args vars h K => ∃ r ws, FI P v args h r ws ∧ K r vars (upd h ws)
abbrev fns (P : Program) : FNs := ⟨Fn P, FI P, fyI P, IT P, fun hk ⟨r, ws, h1, h2⟩ => ⟨r, ws, h1, hk _ _ _ h2⟩, fun hk h => h.mono hk⟩
section
variable {P : Program} {B : Nat} {Z0 : Nat → Prop} {G G' : Gh} {h h' : Heap} {w w' : World}
theorem thWs_mem {ks : Nat → Nat × Nat} {gen : Nat → Nat} : ∀ {cells : List PV} {q : Nat} {x : Nat × Row}, x ∈ thWs ks gen q cells → ∃ i es, cells[i]? = some (.uslc es) ∧ x = ((ks (q + i)).1, (gen (ks (q + i)).1, .arr (ks (q + i)).2 0 false es))
  | [], q, x, hx => by simp [thWs] at hx
  | c :: cells, q, x, hx => by
    have rest : x ∈ thWs ks gen (q + 1) cells → ∃ i es, (c :: cells)[i]? = some (.uslc es) ∧ x = ((ks (q + i)).1, (gen (ks (q + i)).1, .arr (ks (q + i)).2 0 false es)) := fun hx => by
      obtain ⟨i, es, h1, h2⟩ := thWs_mem hx
      exact ⟨i + 1, es, by simpa using h1, by rw [h2, show q + (i + 1) = q + 1 + i by omega]⟩
    cases c <;> simp only [thWs] at hx <;> (try exact rest hx)
    case uslc es =>
      rcases List.mem_cons.1 hx with rfl | hx
      · exact ⟨0, es, rfl, rfl⟩
      · exact rest hx
theorem thWs_in {ks : Nat → Nat × Nat} {gen : Nat → Nat} : ∀ {cells : List PV} {q i : Nat} {es : List PV}, cells[i]? = some (.uslc es) → ((ks (q + i)).1, (gen (ks (q + i)).1, Ob.arr (ks (q + i)).2 0 false es)) ∈ thWs ks gen q cells
  | [], q, i, es, hi => by simp at hi
  | c :: cells, q, 0, es, hi => by simp at hi; subst hi; simp [thWs]
  | c :: cells, q, i + 1, es, hi => by
    have := thWs_in (ks := ks) (gen := gen) (q := q + 1) (show cells[i]? = some (.uslc es) by simpa using hi)
    rw [show q + (i + 1) = q + 1 + i by omega]
    cases c <;> simp only [thWs] <;> first | exact this | exact List.mem_cons_of_mem _ this
theorem nodupN_spec : ∀ {l : List Nat}, nodupN l = true → l.Nodup
  | [], _ => List.nodup_nil
  | k :: l, hk => by
    simp only [nodupN, Bool.and_eq_true] at hk
    refine List.nodup_cons.2 ⟨by simpa using hk.1, nodupN_spec hk.2⟩
theorem upd_in : ∀ {ws : List (Nat × Row)} {h : Heap} {k : Nat} {r : Row}, (ws.map (·.1)).Nodup → (k, r) ∈ ws → k < h.length → (upd h ws)[k]? = some r
  | [], h, k, r, _, hm, _ => by simp at hm
  | x :: ws, h, k, r, hn, hm, hk => by
    simp only [List.map_cons, List.nodup_cons] at hn
    rw [show upd h (x :: ws) = upd (h.set x.1 x.2) ws from rfl]
    rcases List.mem_cons.1 hm with rfl | hm
    · rw [upd_other ws _ _ hn.1, List.getElem?_set_self hk]
    · exact upd_in hn.2 hm (by simpa using hk)
theorem resH_len (szs : List Nat) (r : PV) : (resH szs r).length = (rcells r).length := by unfold resH; rw [upd_length]; simp
theorem resH_keys {szs : List Nat} : ∀ (cells : List PV) (q : Nat), ((thWs (resK szs) (fun _ => 1) q cells).map (·.1)).Nodup ∧ ∀ k ∈ (thWs (resK szs) (fun _ => 1) q cells).map (·.1), q ≤ k
  | [], q => by simp [thWs]
  | c :: cells, q => by
    obtain ⟨h1, h2⟩ := resH_keys (szs := szs) cells (q + 1)
    cases c <;> simp only [thWs] <;> (try exact ⟨h1, fun k hk => by have := h2 k hk; omega⟩)
    refine ⟨?_, fun k hk => ?_⟩
    · simp only [List.map_cons, List.nodup_cons]
      exact ⟨fun hm => by have := h2 _ hm; simp [resK] at this; omega, h1⟩
    · simp only [List.map_cons, List.mem_cons] at hk
      rcases hk with rfl | hk
      · simp [resK]
      · have := h2 k hk; omega
theorem resH_arr {szs : List Nat} {r : PV} {p : Nat} {es : List PV} (hp : (rcells r)[p]? = some (.uslc es)) : (resH szs r)[p]? = some (1, .arr (szs.getD p 0) 0 false es) := by
  have hm := thWs_in (ks := resK szs) (gen := fun _ => 1) (q := 0) hp
  unfold resH
  have := upd_in (h := List.replicate (rcells r).length (0, Ob.dead)) (resH_keys _ 0).1 hm (by simpa [resK] using (List.getElem?_eq_some_iff.1 hp).1)
  simpa [resK] using this
/-- which array of the result lies at number k -/
noncomputable def jAt (ks : Nat → Nat × Nat) (cells : List PV) (k : Nat) : Option Nat :=
  @dite _ (∃ p es, cells[p]? = some (.uslc es) ∧ (ks p).1 = k) (Classical.propDecidable _) (fun hx => some hx.choose) fun _ => none
theorem jAt_some {ks : Nat → Nat × Nat} {cells : List PV} {k p : Nat} (hj : jAt ks cells k = some p) : ∃ es, cells[p]? = some (.uslc es) ∧ (ks p).1 = k := by
  unfold jAt at hj
  split at hj
  · rename_i hx
    cases hj
    exact hx.choose_spec
  · cases hj
theorem jAt_none {ks : Nat → Nat × Nat} {cells : List PV} {k : Nat} (hj : jAt ks cells k = none) : ∀ p es, cells[p]? = some (.uslc es) → (ks p).1 ≠ k := by
  unfold jAt at hj
  split at hj
  · cases hj
  · rename_i hx
    exact fun p es hp he => hx ⟨p, es, hp, he⟩
/-- the numbers are different -/
theorem ks_inj {ks : Nat → Nat × Nat} {gen : Nat → Nat} : ∀ {cells : List PV} {q : Nat}, ((thWs ks gen q cells).map (·.1)).Nodup → ∀ {i j : Nat} {es es' : List PV}, cells[i]? = some (.uslc es) → cells[j]? = some (.uslc es') → (ks (q + i)).1 = (ks (q + j)).1 → i = j
  | [], q, _, i, j, es, es', hi, _, _ => by simp at hi
  | c :: cells, q, hn, i, j, es, es', hi, hj, he => by
    have tail : ((thWs ks gen (q + 1) cells).map (·.1)).Nodup := by
      cases c <;> simp only [thWs] at hn <;> first | exact hn | (simp only [List.map_cons, List.nodup_cons] at hn; exact hn.2)
    cases i with
    | zero =>
      cases j with
      | zero => rfl
      | succ j =>
        exfalso
        simp at hi; subst hi
        simp only [thWs, List.map_cons, List.nodup_cons] at hn
        apply hn.1
        have := thWs_in (ks := ks) (gen := gen) (q := q + 1) (show cells[j]? = some (.uslc es') by simpa using hj)
        refine List.mem_map.2 ⟨_, this, ?_⟩
        rw [show q + 1 + j = q + (j + 1) by omega]; exact he.symm
    | succ i =>
      cases j with
      | zero =>
        exfalso
        simp at hj; subst hj
        simp only [thWs, List.map_cons, List.nodup_cons] at hn
        apply hn.1
        have := thWs_in (ks := ks) (gen := gen) (q := q + 1) (show cells[i]? = some (.uslc es) by simpa using hi)
        refine List.mem_map.2 ⟨_, this, ?_⟩
        rw [show q + 1 + i = q + (i + 1) by omega]; exact he
      | succ j =>
        have := ks_inj (q := q + 1) tail (show cells[i]? = some (.uslc es) by simpa using hi) (show cells[j]? = some (.uslc es') by simpa using hj) (by rw [show q + 1 + i = q + (i + 1) by omega, show q + 1 + j = q + (j + 1) by omega]; exact he)
        omega
/-- where the objects lie behind the call -/
noncomputable def Gh.adopt (G G' : Gh) (n : Nat) (J : Nat → Option Nat) : Gh :=
  { β := fun key => match J key.1 with | some p => G'.β (p, key.2) | none => G.β key
    R := fun key => match J key.1 with | some p => G'.R (p, key.2) | none => G.R key
    γ := fun key => match J key.1 with | some p => G'.γ (p, key.2) | none => G.γ key
    σ := fun key => match J key.1 with | some p => G'.σ (p, key.2) | none => G.σ key
    Z := fun b => G.Z b ∨ (G'.Z b ∧ n ≤ b) }
theorem thCs_get (ks : Nat → Nat × Nat) (gen : Nat → Nat) : ∀ (cs : List PV) (q i : Nat), (thCs ks gen q cs)[i]? = (cs[i]?).map (thC (ks (q + i)) gen)
  | [], q, i => by simp [thCs]
  | c :: cs, q, 0 => by simp [thCs]
  | c :: cs, q, i + 1 => by simp [thCs, thCs_get ks gen cs (q + 1) i]; rw [show q + (i + 1) = q + 1 + i by omega]
theorem thCs_len (ks : Nat → Nat × Nat) (gen : Nat → Nat) : ∀ (cs : List PV) (q : Nat), (thCs ks gen q cs).length = cs.length
  | [], q => rfl
  | c :: cs, q => by simp [thCs, thCs_len ks gen cs (q + 1)]
section
variable {k1 k2 : Nat → Nat × Nat} {g1 g2 : Nat → Nat} {cells : List PV}
theorem thComp_rep (hc : ∀ {n : Nat} {u : Value} {p : Nat} {c : PV}, cells[p]? = some c → VRep G h w n u (thC (k1 p) g1 c) → VRep G' h' w' n u (thC (k2 p) g2 c)) {n q : Nat} {v : Value} {c : PV}
    (hq : ∀ (i : Nat) x, (ecells c)[i]? = some x → cells[q + i]? = some x) (hv : VRep G h w n v (thComp k1 g1 q c)) : VRep G' h' w' n v (thComp k2 g2 q c) := by
  cases c
  case agg cs =>
    simp only [thComp] at hv ⊢
    cases n with
    | zero => unfold VRep at hv; exact hv.elim
    | succ n =>
      unfold VRep at hv ⊢
      obtain ⟨vs, rfl, h1, h2⟩ := hv
      refine ⟨vs, rfl, by rw [thCs_len] at h1 ⊢; exact h1, fun i c hi => ?_⟩
      rw [thCs_get] at hi
      obtain ⟨c0, hc0, rfl⟩ := Option.map_eq_some_iff.1 hi
      obtain ⟨u, h3, h4⟩ := h2 i (thC (k1 (q + i)) g1 c0) (by rw [thCs_get, hc0]; rfl)
      exact ⟨u, h3, hc (hq i c0 hc0) h4⟩
  all_goals exact hc (hq 0 _ rfl) hv
theorem thComps_rep (hc : ∀ {n : Nat} {u : Value} {p : Nat} {c : PV}, cells[p]? = some c → VRep G h w n u (thC (k1 p) g1 c) → VRep G' h' w' n u (thC (k2 p) g2 c)) {n : Nat} : ∀ {vs : List PV} {q : Nat} {U : Nat → Option Value},
    (∀ (i : Nat) x, (vs.flatMap ecells)[i]? = some x → cells[q + i]? = some x) → (∀ (i : Nat) p, (thComps k1 g1 q vs)[i]? = some p → ∃ u, U i = some u ∧ VRep G h w n u p) → ∀ (i : Nat) p, (thComps k2 g2 q vs)[i]? = some p → ∃ u, U i = some u ∧ VRep G' h' w' n u p
  | [], q, U, _, _, i, p, hp => by simp [thComps] at hp
  | c :: vs, q, U, hq, hU, i, p, hp => by
    simp only [thComps] at hp
    cases i with
    | zero =>
      simp at hp; subst hp
      obtain ⟨u, h1, h2⟩ := hU 0 _ (by simp [thComps]; rfl)
      refine ⟨u, h1, thComp_rep hc (fun i x hx => hq i x ?_) h2⟩
      rw [List.flatMap_cons, List.getElem?_append_left (List.getElem?_eq_some_iff.1 hx).1]; exact hx
    | succ i =>
      refine thComps_rep hc (vs := vs) (q := q + (ecells c).length) (U := fun i => U (i + 1)) (fun i x hx => ?_) (fun i p hp => hU (i + 1) p (by simpa [thComps] using hp)) i p (by simpa using hp)
      rw [Nat.add_assoc]
      refine hq _ x ?_
      rw [List.flatMap_cons, List.getElem?_append_right (by omega), Nat.add_sub_cancel_left]; exact hx
theorem thComps_len (ks : Nat → Nat × Nat) (gen : Nat → Nat) : ∀ (cs : List PV) (q : Nat), (thComps ks gen q cs).length = cs.length
  | [], q => rfl
  | c :: cs, q => by simp [thComps, thComps_len ks gen cs _]
end
theorem thV_rep {k1 k2 : Nat → Nat × Nat} {g1 g2 : Nat → Nat} {r : PV} (hc : ∀ {n : Nat} {u : Value} {p : Nat} {c : PV}, (rcells r)[p]? = some c → VRep G h w n u (thC (k1 p) g1 c) → VRep G' h' w' n u (thC (k2 p) g2 c)) {v : Value} (hv : VRep G h w D v (thV k1 g1 r)) : VRep G' h' w' D v (thV k2 g2 r) := by
  cases r
  case tup vs =>
    simp only [thV] at hv ⊢
    obtain ⟨us, rfl, h1, h2⟩ := rep_tup hv
    unfold D; unfold VRep
    refine ⟨us, rfl, by rw [thComps_len] at h1 ⊢; exact h1, thComps_rep (cells := rcells (.tup vs)) hc (q := 0) (U := fun i => us[i]?) (fun i x hx => by rw [Nat.zero_add]; exact hx) h2⟩
  all_goals exact thComp_rep (cells := rcells _) hc (q := 0) (fun i x hx => by rw [Nat.zero_add]; simpa [rcells, comps] using hx) hv
/-- WHAT A CALL HAS MADE becomes the caller's -/
theorem adopt (hr : HRep B Z0 G h w) (hb : Bl w.heap.size w w') {szs : List Nat} {r : PV} {v : Value} {Z' : Nat → Prop} (hr' : HRep w.heap.size Z' G' (resH szs r) w') (hv : VRep G' (resH szs r) w' D v (thV (resK szs) (fun _ => 1) r))
    (hz : ∀ b, G'.Z b → G.Z b ∨ w.heap.size ≤ b) {ks : Nat → Nat × Nat} {gen : Nat → Nat} (hok : rOk r = true) (hn : ((thWs ks gen 0 (rcells r)).map (·.1)).Nodup) (hsz : ∀ p es, (rcells r)[p]? = some (.uslc es) → (ks p).2 = szs.getD p 0)
    (hg : ∀ p es, (rcells r)[p]? = some (.uslc es) → ∃ o, h[(ks p).1]? = some (gen (ks p).1 - 1, o) ∧ 0 < gen (ks p).1) :
    ∃ G'', HRep B Z0 G'' (upd h (thWs ks gen 0 (rcells r))) w' ∧ Ext G h w G'' (upd h (thWs ks gen 0 (rcells r))) w' ∧ VRep G'' (upd h (thWs ks gen 0 (rcells r))) w' D v (thV ks gen r) ∧ Bl B w w' := by
  have hJ : ∀ {k p}, jAt ks (rcells r) k = some p → (ks p).1 = k ∧ ∃ es, (rcells r)[p]? = some (.uslc es) := fun hj => by
    obtain ⟨es, h1, h2⟩ := jAt_some hj; exact ⟨h2, es, h1⟩
  have hJ' : ∀ {p es}, (rcells r)[p]? = some (.uslc es) → jAt ks (rcells r) (ks p).1 = some p := fun {p es} hp => by
    cases hj : jAt ks (rcells r) (ks p).1 with
    | none => exact absurd rfl (jAt_none hj p es hp)
    | some p' =>
      obtain ⟨h1, es', h2⟩ := hJ hj
      rw [ks_inj hn h2 hp (by rw [Nat.zero_add, Nat.zero_add]; exact h1)]
  have hin : ∀ {p es}, (rcells r)[p]? = some (.uslc es) → (upd h (thWs ks gen 0 (rcells r)))[(ks p).1]? = some (gen (ks p).1, .arr (ks p).2 0 false es) := fun {p es} hp => by
    have hm := thWs_in (ks := ks) (gen := gen) (q := 0) hp
    rw [Nat.zero_add] at hm
    obtain ⟨o, ho, _⟩ := hg p es hp
    exact upd_in hn hm (List.getElem?_eq_some_iff.1 ho).1
  have hout : ∀ {k}, jAt ks (rcells r) k = none → (upd h (thWs ks gen 0 (rcells r)))[k]? = h[k]? := fun {k} hj => by
    refine upd_other _ _ _ fun hm => ?_
    obtain ⟨x, hx, rfl⟩ := List.mem_map.1 hm
    obtain ⟨i, es, h1, h2⟩ := thWs_mem hx
    rw [h2] at hj
    exact jAt_none hj i es h1 (by rw [Nat.zero_add])
  have hsame : ∀ {k y}, jAt ks (rcells r) k = none → SameKey G (G.adopt G' w.heap.size (jAt ks (rcells r))) (k, y) := fun {k y} hj => by
    refine ⟨?_, ?_, ?_, ?_⟩ <;> simp only [Gh.adopt, hj]
  have hnew : ∀ {k p y}, jAt ks (rcells r) k = some p → (G.adopt G' w.heap.size (jAt ks (rcells r))).β (k, y) = G'.β (p, y) ∧ ((G.adopt G' w.heap.size (jAt ks (rcells r))).R (k, y) ↔ G'.R (p, y)) ∧ (G.adopt G' w.heap.size (jAt ks (rcells r))).γ (k, y) = G'.γ (p, y) ∧ (G.adopt G' w.heap.size (jAt ks (rcells r))).σ (k, y) = G'.σ (p, y) := fun {k p y} hj => by
    refine ⟨?_, ?_, ?_, ?_⟩ <;> simp only [Gh.adopt, hj]
  have x : Ext G h w (G.adopt G' w.heap.size (jAt ks (rcells r))) (upd h (thWs ks gen 0 (rcells r))) w' := by
    refine ⟨fun _ y => .inl y, fun b hb' => hb.block b (hr.zb b hb').lt, fun k gn ob e => ?_⟩
    cases hj : jAt ks (rcells r) k with
    | none => exact ⟨gn, ob, (hout hj).trans e, Nat.le_refl _, fun _ => Keep.refl k ob (hsame hj) fun i j => hsame hj⟩
    | some p =>
      obtain ⟨rfl, es, hp⟩ := hJ hj
      obtain ⟨o, ho, h0⟩ := hg p es hp
      rw [ho] at e; cases e
      exact ⟨_, _, hin hp, by omega, fun e => by omega⟩
  have hzz : ∀ b, G'.Z b → (G.adopt G' w.heap.size (jAt ks (rcells r))).Z b := fun b hb' => (hz b hb').imp id fun h1 => ⟨hb', h1⟩
  have hcell : ∀ {p k i j u c es}, (rcells r)[p]? = some (.uslc es) → jAt ks (rcells r) k = some p → (pureC c || isU c) = true → CRep G' (resH szs r) w' p i j u c → CRep (G.adopt G' w.heap.size (jAt ks (rcells r))) (upd h (thWs ks gen 0 (rcells r))) w' k i j u c := fun {p k i j u c es} hp hj hnr hc => by
    cases c
    case uslc ns =>
      unfold CRep NRep at hc ⊢
      obtain ⟨a1, a2, a3, a4⟩ := hnew (y := some (i, j)) hj
      rw [a1, a2, a3, a4]
      refine ⟨fun rr => ?_, hc.2⟩
      obtain ⟨us, T, f, cc, n1, n2, n3, n4, n5, n6, n7, n8, n9⟩ := hc.1 rr
      refine ⟨us, T, f, cc, n1, n2, n3, n4, n5, n6, n7, n8, fun a e he => ?_⟩
      obtain ⟨m1, m2⟩ := n9 a e he
      refine ⟨m1, fun t c hc => ?_⟩
      obtain ⟨m3, vv, m4, m5⟩ := m2 t c hc
      exact ⟨m3, vv, m4, m5.mono hzz fun _ _ => rfl⟩
    all_goals
      unfold CRep at hc ⊢
      first
        | exact ⟨hc.1, prep_vrep hc.1 ((vrep_pure (by simpa [isU] using hnr) hc.2).mono hzz fun _ _ => rfl)⟩
  have hB : B ≤ w.heap.size := hr.base
  refine ⟨_, ⟨Nat.le_trans hB hb.size, ?_, ?_, ?_, ?_, ?_, ?_, ?_⟩, x, ?_, hb.mono hB⟩
  · rintro b (h1 | ⟨h1, h2⟩)
    · exact hr.zo b h1
    · exact .inr (by omega)
  · rintro b (h1 | ⟨h1, h2⟩)
    · exact (hr.zb b h1).eq (hb.block b (hr.zb b h1).lt)
    · exact hr'.zb b h1
  · rintro ⟨k, y⟩ hR
    cases hj : jAt ks (rcells r) k with
    | none =>
      obtain ⟨a1, a2, _⟩ := hsame (y := y) hj
      obtain ⟨b1, b2⟩ := hr.lv _ (a2.1 hR)
      rw [a1]; exact ⟨b1, b2.eq (hb.block _ b2.lt)⟩
    | some p =>
      obtain ⟨a1, a2, _⟩ := hnew (y := y) hj
      obtain ⟨b1, b2⟩ := hr'.lv _ (a2.1 hR)
      rw [a1]; exact ⟨by omega, b2⟩
  · rintro k g o ho hlv y hR
    cases hj : jAt ks (rcells r) k with
    | none =>
      obtain ⟨a1, a2, _⟩ := hsame (y := y) hj
      rw [hout hj] at ho
      rw [a1]
      rintro (h1 | ⟨h1, h2⟩)
      · exact hr.nz k g o ho hlv y (a2.1 hR) h1
      · have := (hr.lv _ (a2.1 hR)).2.lt; omega
    | some p =>
      obtain ⟨rfl, es, hp⟩ := hJ hj
      obtain ⟨a1, a2, _⟩ := hnew (y := y) hj
      rw [a1]
      have hnz := hr'.nz p 1 _ (resH_arr hp) rfl y (a2.1 hR)
      rintro (h1 | ⟨h1, h2⟩)
      · have := (hr.zb _ h1).lt
        have := (hr'.lv _ (a2.1 hR)).1; omega
      · exact hnz h1
  · rintro k g sz ver es ho y hR
    cases hj : jAt ks (rcells r) k with
    | none =>
      obtain ⟨a1, a2, _⟩ := hsame (y := y) hj
      rw [hout hj] at ho
      rw [a1]
      exact .inl (hr.fz k g sz ver es ho y (a2.1 hR))
    | some p =>
      obtain ⟨rfl, es', hp⟩ := hJ hj
      rw [hin hp] at ho
      cases ho
  · rintro ⟨k1, y1⟩ ⟨k2, y2⟩ h1 h2 he
    cases hj1 : jAt ks (rcells r) k1 with
    | none =>
      obtain ⟨a1, a2, _⟩ := hsame (y := y1) hj1
      cases hj2 : jAt ks (rcells r) k2 with
      | none =>
        obtain ⟨b1, b2, _⟩ := hsame (y := y2) hj2
        exact hr.inj _ _ (a2.1 h1) (b2.1 h2) (by rw [← a1, ← b1]; exact he)
      | some p2 =>
        obtain ⟨b1, b2, _⟩ := hnew (y := y2) hj2
        have q1 := (hr.lv _ (a2.1 h1)).2.lt
        have q2 := (hr'.lv _ (b2.1 h2)).1
        rw [a1, b1] at he; omega
    | some p1 =>
      obtain ⟨a1, a2, _⟩ := hnew (y := y1) hj1
      cases hj2 : jAt ks (rcells r) k2 with
      | none =>
        obtain ⟨b1, b2, _⟩ := hsame (y := y2) hj2
        have q1 := (hr.lv _ (b2.1 h2)).2.lt
        have q2 := (hr'.lv _ (a2.1 h1)).1
        rw [a1, b1] at he; omega
      | some p2 =>
        obtain ⟨b1, b2, _⟩ := hnew (y := y2) hj2
        have := hr'.inj _ _ (a2.1 h1) (b2.1 h2) (by rw [← a1, ← b1]; exact he)
        simp only [Prod.mk.injEq] at this
        obtain ⟨rfl, rfl⟩ := this
        obtain ⟨rfl, _⟩ := hJ hj1
        obtain ⟨e2, _⟩ := hJ hj2
        rw [e2]
  · rintro k g o ho
    cases hj : jAt ks (rcells r) k with
    | none =>
      rw [hout hj] at ho
      exact (hr.ob k g o ho).ext x (fun y => hsame hj) fun y hR => hb.block _ (hr.lv _ hR).2.lt
    | some p =>
      obtain ⟨rfl, es, hp⟩ := hJ hj
      rw [hin hp] at ho
      cases ho
      have hob := hr'.ob p 1 _ (resH_arr hp)
      have hnr : es.all noRefE = true := by
        have := List.all_eq_true.1 hok _ (List.mem_of_getElem? hp)
        simpa using this
      rw [hsz p es hp]
      unfold ORep at hob ⊢
      obtain ⟨a1, a2, a3, a4⟩ := hnew (y := none) hj
      rw [show (G.adopt G' w.heap.size (jAt ks (rcells r))).β (root (ks p).1) = G'.β (root p) from a1, show (G.adopt G' w.heap.size (jAt ks (rcells r))).γ (root (ks p).1) = G'.γ (root p) from a3]
      obtain ⟨o1, o2, o3, o4, o5⟩ := hob
      refine ⟨o1, o2, o3, fun hR => ?_, fun hR => o5 fun y => hR (a2.2 y)⟩
      obtain ⟨us, T, o6, o7, o8⟩ := o4 (a2.1 hR)
      refine ⟨us, T, o6, o7, fun i e he => ?_⟩
      obtain ⟨o9, o10⟩ := o8 i e he
      refine ⟨o9, fun j c hc => ?_⟩
      obtain ⟨u, o11, o12⟩ := o10 j c hc
      have hnr' : (pureC c || isU c) = true := List.all_eq_true.1 (show (ecells e).all (fun c => pureC c || isU c) = true from List.all_eq_true.1 hnr e (List.mem_of_getElem? he)) c (List.mem_of_getElem? hc)
      exact ⟨u, o11, hcell hp hj hnr' o12⟩
  · -- the value
    refine thV_rep (fun {n u p c} hp hc => ?_) hv
    cases c <;> simp only [thC] at hc ⊢ <;> (try exact mk_undef)
    case bool => obtain rfl := rep_bool hc; exact mk_bool
    case int => obtain rfl := rep_int hc; exact mk_int
    case str => obtain rfl := rep_str hc; exact mk_str
    case nils => obtain rfl := rep_nils hc; exact mk_nils
    case lit => cases n <;> (unfold VRep at hc ⊢; exact hc)
    case slc es => exact mk_slc ((rep_slc hc).mono hzz fun _ _ => rfl)
    case uslc es =>
      have hj := hJ' hp
      have goal : VRep (G.adopt G' w.heap.size (jAt ks (rcells r))) (upd h (thWs ks gen 0 (rcells r))) w' D u (.own (ks p).1 (gen (ks p).1) es.length (ks p).2 0 es.length) := by
        have hc' := VRep.cell (m := D) (by refine ⟨?_, ?_, ?_⟩ <;> intros <;> simp) hc
        unfold D at hc' ⊢; unfold VRep at hc' ⊢
        obtain ⟨a, c, q0, q1, q2, q3, gn, ob, q4, q5, q6⟩ := hc'
        refine ⟨a, c, q0, q1, q2, q3, _, _, hin hp, Nat.le_refl _, fun _ sz vr fr es' e9 => ?_⟩
        cases e9
        refine ⟨Nat.le_refl _, fun _ => ?_⟩
        have hq := resH_arr (szs := szs) hp
        rw [show (resK szs p).1 = p from rfl, hq] at q4
        cases q4
        obtain ⟨_, q7⟩ := q6 rfl _ _ _ _ rfl
        obtain ⟨q8, q9, q10⟩ := q7 rfl
        obtain ⟨a1, a2, a3, a4⟩ := hnew (y := none) hj
        rw [show (G.adopt G' w.heap.size (jAt ks (rcells r))).β (root (ks p).1) = G'.β (root p) from a1, show (G.adopt G' w.heap.size (jAt ks (rcells r))).γ (root (ks p).1) = G'.γ (root p) from a3]
        refine ⟨q8, fun hR => ?_, fun hR => q10 fun y => hR (a2.2 y)⟩
        obtain ⟨f, f1, f2, f3, f4⟩ := q9 (a2.1 hR)
        exact ⟨f, f1, f2.imp id fun hh _ => by simpa using hh rfl, f3, f4⟩
      exact goal.cell (by refine ⟨?_, ?_, ?_⟩ <;> intros <;> simp)
end
end Go.Proofs.Ytalgbgeocpbadaa.Am
