/-
  .. and all of them.
-/
import Derived.Test.YtalgbgeocpbadaaAmT
namespace Go.Proofs.Ytalgbgeocpbadaa.Am
set_option linter.unusedSimpArgs false
set_option linter.unusedVariables false
set_option linter.unusedSectionVars false
open Go.RowKit
/-- between statements -/
def SInv (B : Nat) (Z0 : Nat → Prop) (W0 : Anch B) (vs : List Nat) (N : Nat) (vars : List PV) (h : Heap) (a : Act) (w : World) : Prop :=
  ∃ G, HRep B Z0 G h w ∧ VarsR G h w vs vars a ∧ a.tmps.size = N ∧ DefOk W0.m a.defers w ∧ W0.psi (gho vs vars) G h w
section
variable {P : Program} {B : Nat} {Z0 : Nat → Prop} {W0 : Anch B} {ρ : Option Nat} {nn : Nat} {vs : List Nat} {N : Nat} {ops : List Oper} {xs : List XOper} {vars : List PV} {h : Heap} {T : Nat → XSt} {p : Nat → PV} {ws : Nat → List (Nat × Row)} {S : Nat → Bool} {G G' : Gh} {hS : Heap} {a : Act} {w w' : World}
theorem gd_drawn {i : Nat} {loc vars : List PV} {o : Oper} (hrd : ∀ j b t d, o.guard = some (j, b) → (ops[j]?).bind (·.dst) = some t → rdOp vs ops i (.tmp t) = some d → ∃ v, a.tmps[t]? = some v ∧ VRep G h w D v (evO loc vars d)) {g : Option (Opd × Bool)}
    (hg : (match o.guard with
        | none => some none
        | some (j, b) => match (ops[j]?).bind (·.dst) with
          | some t => (rdOp vs ops i (.tmp t)).map fun d => some (d, b)
          | none => none) = some g) {c : Bool} (hc : gdO loc vars g = some c) : Region.wanted o (yielded ops.toArray a.tmps) = c := by
  unfold Region.wanted
  cases hgo : o.guard with
  | none =>
    rw [hgo] at hg
    simp at hg
    subst hg
    simpa [gdO] using hc
  | some jb =>
    obtain ⟨j, b⟩ := jb
    rw [hgo] at hg
    simp only at hg
    split at hg
    · rename_i t ht
      obtain ⟨d, h1, rfl⟩ := Option.map_eq_some_iff.1 hg
      obtain ⟨v, hv, hr⟩ := hrd j b t d hgo ht h1
      simp only [gdO] at hc
      have hy : yielded ops.toArray a.tmps j = (match a.tmps[t]? with | some (.bool b) => some b | _ => none) := by
        unfold yielded
        rw [show ops.toArray[j]? = ops[j]? by simp, ht]; rfl
      show (yielded ops.toArray a.tmps j == some b) = c
      rw [hy, hv]
      split at hc
      · rename_i c0 he
        cases hc
        rw [he] at hr
        rw [rep_bool hr]
        cases c0 <;> cases b <;> rfl
      · rename_i he
        cases hc
        rw [he] at hr
        obtain ⟨us, hb, hs⟩ := rep_tup hr
        rw [hb]; cases b <;> rfl
      · cases hc
    · cases hg
/-- an operation that is ready, in whatever order -/
theorem drawn_step (hn : vs.Nodup) (d : Drawn P vs N ops xs) (tr : Trace (fns P) xs vars h T p ws) (hsi : sitesIn h.length xs = true) (r : SRel P B Z0 W0 vs N ops vars h T p ws S G hS a w) {i : Nat} (n : Next ops S i) {Q : Exit → Act → World → Prop} {K : Act → World → Prop}
    (hK : ∀ G' hS' a' w', SRel P B Z0 W0 vs N ops vars h T p ws (fun j => S j || j == i) G' hS' a' w' → K a' w') : wpOpIn (fz ρ) nn P ops.toArray Q i K a w := by
  obtain ⟨o, ho⟩ : ∃ o, ops[i]? = some o := ⟨_, List.getElem?_eq_getElem n.lt⟩
  obtain ⟨x, hx, hok⟩ := d.ok i o ho
  have hsi2 : ∀ j, j ∈ siteNos x.op → j < hS.length ∧ x.hide.contains j = false := fun j hj => by
    have := List.all_eq_true.1 (List.all_eq_true.1 hsi x (List.mem_of_getElem? hx)) j hj
    rw [r.len]
    simpa [Nat.blt_eq] using this
  have hlen : (T i).heap.length = hS.length := by rw [r.len]; exact tr.len (by rw [d.len]; exact Nat.le_of_lt n.lt)
  have hrd := rd_all d tr r n ho
  have hcont : ∀ {v w' G'}, HRep B Z0 G' (upd hS (ws i)) w' → Ext G hS w G' (upd hS (ws i)) w' → VRep G' (upd hS (ws i)) w' D v (p i) → Bl B w w' → K (a.put o.dst v) w' := fun {v w' G'} r1 r2 r3 r4 =>
    hK _ _ _ _ (srel_put hn d tr hsi r n ho r1 r2 r3 r4)
  have hgd : ∀ c, gdO (T i).loc (T i).vars x.guard = some c → Region.wanted o (yielded ops.toArray a.tmps) = c := fun c hc =>
    gd_drawn (fun j b t dd hg ht hd => rd_drawn d tr r n ho (List.mem_append_right _ (by rw [hg]; simp [ht])) hd) hok.gd hc
  unfold wpOpIn
  rw [show ops.toArray[i]? = some o by simpa using ho]
  simp only
  obtain ⟨k, app, al, hop⟩ := hok.op
  rcases (tr.st i x hx).1 with ⟨hg, hp, hw⟩ | ⟨hg, hcase⟩
  · rw [hgd _ hg, if_neg (by simp)]
    refine ⟨fun _ _ => trivial, hcont (G' := G) ?_ ?_ ?_ (Bl.refl _ _)⟩
    · rw [hw]; exact r.hr
    · rw [hw]; exact Ext.refl
    · rw [hp]; exact tup0
  · rw [hgd _ hg, if_pos rfl]
    refine ⟨fun _ _ => trivial, ?_⟩
    rw [show o.semAt (fz ρ).round a.eval = execOp a.eval o from Oper.semAt_eq _ _ _ (compOp_nodefer hop)]
    rcases hcase with ⟨f, b, ks, al', q, hxo, hF, hcok, hp, hw⟩ | ⟨fd, b, hxo, hF⟩ | ⟨hnc, hnv, _, ha⟩
    · have hk0 : xkind x.op ≠ 0 := by rw [hxo]; simp [xkind]
      have hsd : ∀ k ∈ siteNos x.op, lkOf hS x.hide k = lkOf (T i).heap x.hide k := fun k hk => site_drawn d tr hsi r n hx (by rw [hxo]; rfl) hk
      have hall : (b.map fun a => fzV (lkOf (T i).heap x.hide) (evO (T i).loc (T i).vars a)) = (b.map fun a => fzV (lkOf hS x.hide) (evO (T i).loc (T i).vars a)) ∧
          (b.map (evO (T i).loc (T i).vars)).any (hasOwn (lkOf (T i).heap x.hide)) = (b.map (evO (T i).loc (T i).vars)).any (hasOwn (lkOf hS x.hide)) := by
        cases hcc : constCall x.op
        · rw [lk_drawn d tr r n hx hk0 (by unfold quiet; rw [hcc, hxo]; rfl)]; exact ⟨rfl, rfl⟩
        · rw [hxo] at hcc
          simp only [constCall, List.all_eq_true] at hcc
          have hcp : ∀ a ∈ b, constP (evO (T i).loc (T i).vars a) = true := fun a ha => by
            have := hcc a ha
            cases a <;> first | exact this | (simp at this; done)
          refine ⟨List.map_congr_left fun a ha => fzV_const (hcp a ha), ?_⟩
          have hno : ∀ lk, (b.map (evO (T i).loc (T i).vars)).any (hasOwn lk) = false := fun lk => by
            rw [List.any_eq_false]
            intro c hc
            obtain ⟨a, ha, rfl⟩ := List.mem_map.1 hc
            rw [hasOwn_const (hcp a ha)]; simp
          rw [hno, hno]
      have hgen : ∀ j es, (rcells q)[j]? = some (.uslc es) → genF (lkOf (T i).heap x.hide) (ksF ks j).1 = genF (lkOf hS x.hide) (ksF ks j).1 := fun j es hj => by
        have := hsd (ksF ks j).1 (by rw [hxo]; exact callOk_sites hcok hj)
        unfold genF; rw [this]
      rw [hxo] at hop hsi2
      obtain ⟨args, ats, ho2, hds⟩ := compOp_call hop
      obtain ⟨dst, op, type, pos, after, guard⟩ := o
      simp only at ho2
      subst ho2
      rw [hall.1] at hF
      rw [hall.2, hlen] at hcok
      rw [thV_congr hgen] at hp
      have hwc : thWs (ksF ks) (genF (lkOf (T i).heap x.hide)) 0 (rcells q) = thWs (ksF ks) (genF (lkOf hS x.hide)) 0 (rcells q) := thWs_congr fun j es hj => by
        have := hgen j es hj
        rwa [show (0 : Nat) + j = j by omega]
      rw [hwc] at hw
      have hrun := run_call (P := P) (w := w) (ρ := a.eval) (dst := dst) (args := args) (ats := ats) (type := type) (pos := pos) (after := after) (guard := guard) hF.1 rfl
      rw [hrun]
      refine ⟨fun e => (by cases e), callsIn_fz.2 ?_⟩
      refine call_sound r.hr hrd hds hF hcok (fun j hj => (hsi2 j hj).2) fun v w' G' r1 r2 r3 r4 => ?_
      rw [← hw] at r1 r2 r3
      rw [← hp] at r3
      exact hcont r1 r2 r3 r4
    · have hheap : hS = (T i).heap := List.ext_getElem? fun k => by
        have hlast : lastP (fun j => S j && wr ws k j) ops.length = lastP (wr ws k) i := by
          refine last_agree n.lt n.out fun j hj hc => ?_
          obtain ⟨y, hy⟩ : ∃ y, xs[j]? = some y := ⟨_, List.getElem?_eq_getElem (by rw [d.len]; exact hj)⟩
          obtain ⟨_, _, h3, _⟩ := d.un i j x y _ _ hx hy (List.getElem?_eq_getElem n.lt) (List.getElem?_eq_getElem hj) (n.conf hj hc)
          have hk0 : xkind y.op = 0 := by
            unfold okPair at h3
            simp only [Bool.or_eq_true, Bool.and_eq_true, decide_eq_true_eq, beq_iff_eq, hxo, xkind, isApp, quiet, constCall, isLoadV] at h3
            simp at h3; exact h3
          cases hw : wr ws k j
          · rfl
          · obtain ⟨z, hz1, _⟩ := List.mem_map.1 (List.contains_iff_mem.1 hw)
            have := res_sites (tr.st j y hy).1 (by omega) z hz1
            rw [kind0_sites hk0] at this; cases this
        rw [r.hp k, tr.heap k (i := i) (by rw [d.len]; exact Nat.le_of_lt n.lt), hlast]
        rfl
      rw [hxo] at hop
      obtain ⟨fo, args, ats, ho2, hfo, hds⟩ := compOp_callv hop
      obtain ⟨dst, op, type, pos, after, guard⟩ := o
      simp only at ho2
      subst ho2
      have hF' : FI P (evO (T i).loc (T i).vars fd) (b.map (evO (T i).loc (T i).vars)) hS (p i) (ws i) := by rw [hheap]; exact hF
      obtain ⟨f, vf, vc, hcf, hρ, hcalls⟩ := callv_sound r.hr hrd hfo hds hF'
      have hrun := run_callv (P := P) (w := w) (ρ := a.eval) (dst := dst) (args := args) (ats := ats) (type := type) (pos := pos) (after := after) (guard := guard) hcf hρ
      rw [hrun]
      exact ⟨fun e => (by cases e), callsIn_fz.2 (hcalls _ fun v w' G' r1 r2 r3 r4 => hcont r1 r2 r3 r4)⟩
    · have ha' : aop (evO (T i).loc (T i).vars) (lkOf hS x.hide) x.op = some (p i, ws i) := by
        by_cases hk0 : xkind x.op = 0
        · rw [← ha]; exact aop_kind0 hk0
        · cases hlv : isLoadV x.op
          · rw [lk_drawn d tr r n hx hk0 (by
              cases hop : x.op <;> first | rfl | exact absurd hop (hnc _ _ _ _) | (rw [hop] at hlv; cases hlv))]; exact ha
          · exact loadV_drawn d tr r n hx hlv ha
      obtain ⟨nx, v, w', G', g1, g2, g3, g4, g5, g6⟩ := snd_op r.hr hrd hop hsi2 ha'
      rw [g1]
      rcases g2 with rfl | ⟨rfl, rfl⟩
      · exact hcont g3 g4 g5 g6
      · exact hcont g3 g4 g5 g6
/-! counting what is left -/
def left_ (S : Nat → Bool) : Nat → Nat
  | 0 => 0
  | n + 1 => left_ S n + if S n then 0 else 1
theorem left_mono {S S' : Nat → Bool} (hs : ∀ j, S j = true → S' j = true) : ∀ n, left_ S' n ≤ left_ S n
  | 0 => Nat.le_refl _
  | n + 1 => by
    have := left_mono hs n
    simp only [left_]
    cases h1 : S n
    · split <;> simp <;> omega
    · rw [hs n h1]; simp; omega
theorem left_put {S : Nat → Bool} {i : Nat} (hi : S i = false) : ∀ {n : Nat}, i < n → left_ (fun j => S j || j == i) n < left_ S n
  | 0, h => by omega
  | n + 1, h => by
    simp only [left_]
    by_cases hin : i = n
    · subst hin
      have := left_mono (S := S) (S' := fun j => S j || j == i) (fun j hj => by simp [hj]) i
      simp [hi]; omega
    · have := left_put hi (n := n) (by omega)
      have hne : (n == i) = false := by simp; omega
      simp only [hne, Bool.or_false]; omega
theorem left_zero {S : Nat → Bool} : ∀ {n : Nat}, left_ S n = 0 → ∀ j, j < n → S j = true
  | 0, _, j, h => by omega
  | n + 1, h, j, hj => by
    simp only [left_] at h
    cases hs : S n
    · rw [hs] at h; simp at h
    · by_cases hjn : j = n
      · subst hjn; exact hs
      · exact left_zero (n := n) (by omega) j (by omega)
theorem left_le (S : Nat → Bool) : ∀ n, left_ S n ≤ n
  | 0 => Nat.le_refl _
  | n + 1 => by have := left_le S n; simp only [left_]; split <;> omega
/-- when all is done -/
theorem srel_end (hn : vs.Nodup) (d : Drawn P vs N ops xs) (tr : Trace (fns P) xs vars h T p ws) (r : SRel P B Z0 W0 vs N ops vars h T p ws S G hS a w) (hall : ∀ j, j < ops.length → S j = true) : SInv B Z0 W0 vs N (T xs.length).vars (T xs.length).heap a w := by
  have hcg : ∀ q : Nat → Bool, lastP (fun j => S j && q j) ops.length = lastP q xs.length := fun q => by
    rw [d.len]; exact lastP_congr fun j hj => by rw [hall j hj]; rfl
  have hheap : hS = (T xs.length).heap := List.ext_getElem? fun k => by
    rw [r.hp k, tr.heap k (Nat.le_refl _), hcg]
    rfl
  have hgho : ∀ i, i ≤ xs.length → gho vs (T i).vars = gho vs vars := fun i => by
    induction i with
    | zero => intro _; rw [tr.t0]
    | succ i ih =>
      intro hi
      have hi' : i < xs.length := by omega
      obtain ⟨x, hx, hok⟩ := d.ok i _ (List.getElem?_eq_getElem (d.len ▸ hi'))
      rw [List.getElem?_eq_getElem hi'] at hx
      cases hx
      rw [tr.next hi', ← ih (by omega)]
      simp only
      rw [hok.var]; exact gho_set
  refine ⟨G, hheap ▸ r.hr, fun k t hk => ?_, r.sz, r.df, by rw [hgho _ (Nat.le_refl _)]; exact hheap ▸ r.be⟩
  have hidx : vs.idxOf? t = some k := by
    cases hi : vs.idxOf? t with
    | none => exact absurd hk (idx_none hi)
    | some k0 => rw [nodup_get hn (idx_get hi) hk]
  have hvar : ∀ j (hjl : j < xs.length), ∃ b, ops[j]? = some b ∧ (xs[j]).var = b.dst.bind (vs.idxOf? ·) := fun j hjl => by
    obtain ⟨x, hx, hok⟩ := d.ok j _ (List.getElem?_eq_getElem (d.len ▸ hjl))
    rw [List.getElem?_eq_getElem hjl] at hx
    cases hx
    exact ⟨_, List.getElem?_eq_getElem (d.len ▸ hjl), hok.var⟩
  have hq1 : ∀ j (hjl : j < xs.length), (xs[j]).var = some k → dq ops t j = true := fun j hjl hv => by
    obtain ⟨b, hb, hb2⟩ := hvar j hjl
    rw [hb2] at hv
    obtain ⟨t', h5, h6⟩ := Option.bind_eq_some_iff.1 hv
    have : t' = t := Option.some.inj ((idx_get h6).symm.trans hk)
    subst this
    exact (dq_iff hb).2 h5
  have hq2 : ∀ j (hjl : j < xs.length), dq ops t j = true → (xs[j]).var = some k := fun j hjl hq => by
    obtain ⟨b, hb, hb2⟩ := hvar j hjl
    rw [hb2, (dq_iff hb).1 hq]
    exact hidx
  rw [← hheap]
  have hvr := tr.vr hq1 hq2 (Nat.le_refl _)
  cases hl : lastP (fun j => S j && dq ops t j) ops.length with
  | some j =>
    obtain ⟨v, h1, h2⟩ := r.slw t j hl
    refine ⟨v, h1, ?_⟩
    rw [hcg] at hl
    rcases hvr with h4 | h4
    · rw [h4]; exact mk_undef
    · rw [h4, hl]; exact h2
  | none =>
    obtain ⟨v, h1, h2⟩ := r.sl0 t hl k hk
    refine ⟨v, h1, ?_⟩
    rw [hcg] at hl
    rcases hvr with h4 | h4
    · rw [h4]; exact mk_undef
    · rw [h4, hl]; exact h2
theorem any_sound (hn : vs.Nodup) (d : Drawn P vs N ops xs) (tr : Trace (fns P) xs vars h T p ws) (hsi : sitesIn h.length xs = true) {Q : Exit → Act → World → Prop} (hQ : ∀ a w, SInv B Z0 W0 vs N (T xs.length).vars (T xs.length).heap a w → Q .normal a w) :
    ∀ (fuel : Nat) (listed : Array Bool) (a : Act) (w : World) (G : Gh) (hS : Heap), listed.size = ops.length → left_ (fun j => listed.getD j false) ops.length ≤ fuel →
      (∀ j k, listed.getD j false = true → j < ops.length → ((waitL [] ops).getD j 0).testBit k = true → listed.getD k false = true) →
      SRel P B Z0 W0 vs N ops vars h T p ws (fun j => listed.getD j false) G hS a w → wpAnyIn (fz ρ) nn P .any ops.toArray Q fuel listed a w := by
  have hready : ∀ (listed : Array Bool) (i : Nat), listed.size = ops.length → (i ∈ Region.ready .any ops.toArray listed ↔ i < ops.length ∧ listed.getD i false = false ∧ ∃ o, ops[i]? = some o ∧ ∀ e ∈ o.after.toList, Region.binds .any e = true → listed.getD e.on false = true) := by
    intro listed i hl
    unfold Region.ready
    rw [List.mem_filter, List.mem_range]
    simp only [List.size_toArray, List.getElem?_toArray, Bool.and_eq_true, Bool.not_eq_true']
    constructor
    · rintro ⟨h1, h2, h3⟩
      refine ⟨h1, ?_, ops[i], List.getElem?_eq_getElem h1, fun e he hb => ?_⟩
      · rw [← h2]; simp only [Array.getD_eq_getD_getElem?]
        rw [Array.getElem?_eq_getElem (by omega)]; rfl
      · rw [List.getElem?_eq_getElem h1] at h3
        simp only [Option.map_some, Option.getD_some] at h3
        have := Array.all_eq_true'.1 h3 e (by simpa using he)
        rw [hb] at this
        simpa using this
    · rintro ⟨h1, h2, o, h3, h4⟩
      refine ⟨h1, ?_, ?_⟩
      · rw [← h2]; simp only [Array.getD_eq_getD_getElem?]
        rw [Array.getElem?_eq_getElem (by omega)]; rfl
      · rw [h3]
        simp only [Option.map_some, Option.getD_some]
        refine Array.all_eq_true'.2 fun e he => ?_
        cases hb : Region.binds .any e
        · rfl
        · simp [h4 e (by simpa using he) hb]
  have hdone : ∀ (listed : Array Bool), listed.size = ops.length → Region.ready .any ops.toArray listed = [] → ∀ j, j < ops.length → listed.getD j false = true := by
    intro listed hl hr j
    induction j using Nat.strongRecOn with
    | _ j ih =>
      intro hj
      cases hs : listed.getD j false
      · exfalso
        have : j ∈ Region.ready .any ops.toArray listed := (hready listed j hl).2 ⟨hj, hs, ops[j], List.getElem?_eq_getElem hj, fun e he hb => by
          have := edgesOk_get d.ed j _ (List.getElem?_eq_getElem hj) e he hb
          exact ih e.on (by omega) (by omega)⟩
        rw [hr] at this; simp at this
      · rfl
  intro fuel
  induction fuel with
  | zero =>
    intro listed a w G hS hl hf hcl r
    have hall := left_zero (Nat.le_zero.1 hf)
    unfold wpAnyIn
    refine ⟨?_, hQ _ _ (srel_end hn d tr r hall)⟩
    refine List.eq_nil_iff_forall_not_mem.2 fun i hi => ?_
    obtain ⟨h1, h2, _⟩ := (hready listed i hl).1 hi
    rw [hall i h1] at h2; cases h2
  | succ fuel ih =>
    intro listed a w G hS hl hf hcl r
    unfold wpAnyIn
    refine ⟨fun hr => hQ _ _ (srel_end hn d tr r (hdone listed hl hr)), fun i hi => ?_⟩
    obtain ⟨h1, h2, o, h3, h4⟩ := (hready listed i hl).1 hi
    have hmine : ∀ k, ((waitL [] ops).getD i 0).testBit k = true → listed.getD k false = true := fun k hk => by
      obtain ⟨e, e1, e2, e3, e4⟩ := wait_bit h3 hk
      rcases e4 with rfl | e4
      · exact h4 e e1 e2
      · exact hcl e.on k (h4 e e1 e2) (by omega) e4
    have hput : (fun j => (listed.setIfInBounds i true).getD j false) = fun j => (listed.getD j false || j == i) := by
      funext j
      simp only [Array.getD_eq_getD_getElem?]
      by_cases hji : j = i
      · subst hji
        rw [Array.getElem?_setIfInBounds_self_of_lt (by omega)]; simp
      · rw [Array.getElem?_setIfInBounds_ne (Ne.symm hji)]
        have : (j == i) = false := by simpa using hji
        rw [this, Bool.or_false]
    refine drawn_step hn d tr hsi r ⟨h1, h2, hcl, hmine⟩ fun G' hS' a' w' r' => ?_
    refine ih _ a' w' G' hS' (by simpa using hl) ?_ ?_ (by rw [hput]; exact r')
    · rw [hput]
      have := left_put (S := fun j => listed.getD j false) h2 h1
      omega
    · intro j k hj hjl hb
      have e1 := congrFun hput j
      have e2 := congrFun hput k
      rw [e1] at hj
      rw [e2]
      rw [Bool.or_eq_true] at hj ⊢
      rcases hj with hj | hj
      · exact .inl (hcl j k hj hjl hb)
      · obtain rfl : j = i := by simpa using hj
        exact .inl (hmine k hb)
/-- A REGION OF DRAWN ORDER -/
theorem drawn_sound (hm : P.follows .mixedOrders = true) (hn : vs.Nodup) {id k k' : Nat} {ops : List Oper} {xs : List XOper} (hc : compReg P vs N k ops true = some (xs, k')) (hsi : sitesIn h.length xs = true) {Q' : XSt → Prop} (hx : xrun (fns P) xs ⟨[], vars, h⟩ Q')
    {Q : Exit → Act → World → Prop} (hQ : ∀ st a w, SInv B Z0 W0 vs N st.vars st.heap a w → Q' st → Q .normal a w) (hi : SInv B Z0 W0 vs N vars h a w) : (Code.region id ops.toArray true).wpIn (fz ρ) nn P Q a w := by
  have d := drawn_of hc
  obtain ⟨T, p, ws, t0, tq, tst⟩ := xrun_trace d.cy hx
  have tr : Trace (fns P) xs vars h T p ws := ⟨t0, tst⟩
  obtain ⟨G, i1, i2, i3, i4, i5⟩ := hi
  refine wpIn_region_any hm ?_
  have hS0 : ∀ q : Nat → Bool, lastP (fun j => (Array.replicate ops.length false).getD j false && q j) ops.length = none := fun q => by
    have hf : ∀ n, lastP (fun j => (Array.replicate ops.length false).getD j false && q j) n = none := fun n => by
      induction n with
      | zero => rfl
      | succ n ih =>
        simp only [lastP]
        rw [ih, if_neg]
        simp only [Array.getD_eq_getD_getElem?, Array.getElem?_replicate]
        split <;> simp
    exact hf _
  have hdrew : Bl B w { w with drawn := w.drawn + 1 } := Bl.drew (Bl.refl _ _)
  refine any_sound (B := B) (Z0 := Z0) (W0 := W0) (p := p) (ws := ws) hn d tr hsi (fun a w hh => hQ _ a w hh tq) _ _ _ _ G h (by simp) (by simpa using left_le _ _) ?_ ?_
  · intro j k hj
    exfalso
    revert hj
    simp only [Array.getD_eq_getD_getElem?, Array.getElem?_replicate]
    split <;> simp
  · have hext : Ext G h w G h { w with drawn := w.drawn + 1 } := ⟨fun _ x => x, fun _ _ => rfl, Ext.refl.kp (w := w)⟩
    refine ⟨?_, rfl, fun k => ?_, fun t j hj => ?_, fun t _ k hk => ?_, i3, i4, W0.step i5 hext hdrew⟩
    · exact ⟨i1.base, i1.zo, i1.zb, i1.lv, i1.nz, i1.fz, i1.inj, fun k g o ho => (i1.ob k g o ho).ext hext (fun y => SameKey.refl _ _) fun y _ => rfl⟩
    · rw [show ops.toArray.size = ops.length by simp] at *
      rw [hS0]
    · rw [show ops.toArray.size = ops.length by simp] at *
      rw [hS0] at hj; cases hj
    · obtain ⟨v, h1, h2⟩ := i2 k t hk
      exact ⟨v, h1, h2.ext hext⟩
end
end Go.Proofs.Ytalgbgeocpbadaa.Am
