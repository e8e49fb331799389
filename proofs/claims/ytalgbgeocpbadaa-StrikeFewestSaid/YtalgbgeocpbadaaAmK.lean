/-
  .. stores.
-/
import Derived.Test.YtalgbgeocpbadaaAmJ
namespace Go.Proofs.Ytalgbgeocpbadaa.Am
set_option linter.unusedSimpArgs false
set_option linter.unusedVariables false
set_option linter.unusedSectionVars false
open Go.RowKit
section
variable {P : Program} {B : Nat} {Z0 : Nat → Prop} {G G' : Gh} {h h' : Heap} {w w' : World}
/-- the row with the cells vs put in at o -/
def putIn (us : Array Value) (o : Nat) (vs : List Value) : Array Value := (us.toList.take o ++ vs ++ us.toList.drop (o + vs.length)).toArray
theorem putIn_size {us : Array Value} {o : Nat} {vs : List Value} (hl : o + vs.length ≤ us.size) : (putIn us o vs).size = us.size := by
  simp [putIn]; omega
theorem putIn_get {us : Array Value} {o : Nat} {vs : List Value} (hl : o + vs.length ≤ us.size) (t : Nat) : (putIn us o vs)[t]? = if o ≤ t ∧ t < o + vs.length then vs[t - o]? else us[t]? := by
  unfold putIn
  rw [List.getElem?_toArray]
  have h1 : (us.toList.take o).length = o := by simp; omega
  by_cases c1 : t < o
  · rw [if_neg (by omega), List.append_assoc, List.getElem?_append_left (by omega), List.getElem?_take, if_pos c1]; simp
  · rw [List.append_assoc, List.getElem?_append_right (by omega), h1]
    by_cases c2 : t < o + vs.length
    · rw [if_pos (by omega), List.getElem?_append_left (by omega)]
    · rw [if_neg (by omega), List.getElem?_append_right (by omega), List.getElem?_drop]
      rw [show o + vs.length + (t - o - vs.length) = t by omega]; simp
theorem run_store_at {t : TypeId} {sz b o : Nat} {us : Array Value} {T : TypeId} {v : Value} (hs : sizeA P t = some sz) (hv : v.cells.size = sz) (h1 : ∀ u ∈ v.cells.toList, u.oneCell' = true) (hb : w.heap[b]? = some (.cells us T (0, 0))) (hl : o + sz ≤ us.size) :
    (Instr.storeAt t (.pointer (some ⟨b, o, none⟩)) v).run P w = .ok () (w.setRow b (putIn us o v.cells.toList)) := by
  obtain ⟨i, hi, rfl⟩ := sizeA_some hs
  have hst := run_storeCells_at P b o T v.cells.toList 0 us w hb (by simpa [hv] using hl) h1
  simp only [Nat.add_zero] at hst
  simp [Instr.storeAt, Instr.sureAddr, storeVar, sizeOf, typeInfo, hi, hv, hst, putIn]
theorem lrep_cells {R : Value → PV → Prop} {v : Value} {cs : List PV} (hR : ∀ u c, R u c → u.oneCell' = true) (hv : LRep R v.cells cs) : ∀ u ∈ v.cells.toList, u.oneCell' = true := by
  intro u hu
  obtain ⟨i, hi, rfl⟩ := List.getElem_of_mem hu
  have hi' : i < cs.length := by rw [← hv.1]; simpa using hi
  obtain ⟨u, h1, h2⟩ := hv.2 i _ (List.getElem?_eq_getElem hi')
  have : v.cells.toList[i] = u := by
    have h3 : v.cells.toList[i]? = some u := by simpa using h1
    rw [List.getElem?_eq_getElem hi] at h3
    exact Option.some.inj h3
  rw [this]
  exact hR _ _ h2
theorem isC.setRow {w : World} {b g : Nat} {cs : Array Value} (h : isC w b) : isC (w.setRow g cs) b := by
  obtain ⟨us, T, x, hb⟩ := h
  by_cases e : b = g
  · subst e; exact ⟨cs, T, x, setRow_heap w b us cs T x hb⟩
  · exact ⟨us, T, x, (setRow_other w g b cs e).trans hb⟩
/-- a variable is written to -/
theorem var_update (hr : HRep B Z0 G h w) {k g : Nat} {cs cs' : List PV} {us us' : Array Value} {T : TypeId} (hh : h[k]? = some (g, .var cs)) (hb : w.heap[G.β (root k)]? = some (.cells us T (0, 0))) (hu : LRep (fun v c => one c = true ∧ VRep G h w D v c) us' cs') :
    HRep B Z0 G (h.set k (g, .var cs')) (w.setRow (G.β (root k)) us') ∧ Ext G h w G (h.set k (g, .var cs')) (w.setRow (G.β (root k)) us') := by
  have hk : k < h.length := (List.getElem?_eq_some_iff.1 hh).1
  have hob := hr.ob k g _ hh
  unfold ORep at hob
  obtain ⟨hR, _⟩ := hob
  have x : Ext G h w G (h.set k (g, .var cs')) (w.setRow (G.β (root k)) us') := by
    refine ⟨fun _ y => y, fun b hb' => setRow_other w _ _ _ fun e => hr.nz k g _ hh rfl none hR (e ▸ hb'), fun k' gn ob e => ?_⟩
    by_cases hkk : k' = k
    · subst hkk; rw [hh] at e; cases e
      refine ⟨g, .var cs', List.getElem?_set_self hk, Nat.le_refl _, fun _ => ⟨fun _ _ _ _ e' => ?_, fun cs'' e' => ⟨cs, rfl, SameKey.refl _ _⟩⟩⟩
      cases e'
    · exact ⟨gn, ob, by rw [List.getElem?_set_ne (Ne.symm hkk)]; exact e, Nat.le_refl _, fun _ => Keep.refl k' ob (SameKey.refl _ _) fun i j => SameKey.refl _ _⟩
  refine ⟨hr.update k g _ hk x (fun _ _ _ => .inl (SameKey.refl _ _)) (fun k' y hkk hR' => setRow_other w _ _ _ fun e => hkk (congrArg Prod.fst (hr.inj _ _ hR' hR e))) (by simp [World.setRow]) (fun b hb' => (hr.zb b hb').eq (x.zw b hb')) (fun b hb => .inl hb) (fun _ _ _ _ hn => hn) (fun y hR' => ?_) (fun _ _ _ e => by cases e) ?_, x⟩
  · obtain ⟨b1, b2⟩ := hr.lv _ hR'
    exact ⟨b1, b2.setRow, fun _ => hr.nz k g _ hh rfl y hR', fun y' hR2 e => congrArg Prod.snd (hr.inj _ _ hR' hR2 e), fun k' y' hkk hR2 e => hkk (congrArg Prod.fst (hr.inj _ _ hR' hR2 e)).symm⟩
  · unfold ORep
    exact ⟨hR, us', T, setRow_heap w _ us us' T (0, 0) hb, hu.mono fun v c y => ⟨y.1, y.2.ext x⟩⟩
/-- an array that lies in a cell is written to -/
theorem nest_update (hr : HRep B Z0 G h w) {k g s ver i j : Nat} {es es' : List PV} {ns ns' : List PV} {e e' : PV} {us us' : Array Value} {T : TypeId} (hh : h[k]? = some (g, .arr s ver false es)) (he : es[i]? = some e) (hc : (ecells e)[j]? = some (.uslc ns))
    (hR : G.R (nest k i j)) (hb : w.heap[G.β (nest k i j)]? = some (.cells us T (0, 0))) (hes : es' = es.set i e') (hec : ecells e' = (ecells e).set j (.uslc ns')) (hlen : ns'.length = ns.length) (hus : us'.size = us.size)
    (hn : ∀ (m : Nat) x, ns'[m]? = some x → (ecells x).length = G.σ (nest k i j) ∧ ∀ (l : Nat) c, (ecells x)[l]? = some c → one c = true ∧ ∃ v, us'[m * G.σ (nest k i j) + l]? = some v ∧ PR G.Z w v c) :
    HRep B Z0 G (h.set k (g, .arr s ver false es')) (w.setRow (G.β (nest k i j)) us') ∧ Ext G h w G (h.set k (g, .arr s ver false es')) (w.setRow (G.β (nest k i j)) us') := by
  subst hes
  have hk : k < h.length := (List.getElem?_eq_some_iff.1 hh).1
  have hi : i < es.length := (List.getElem?_eq_some_iff.1 he).1
  have hj : j < (ecells e).length := (List.getElem?_eq_some_iff.1 hc).1
  have hcell : ∀ i0 j0, (i0 = i ∧ j0 = j) ∨ cellAt (es.set i e') i0 j0 = cellAt es i0 j0 := fun i0 j0 => by
    by_cases h1 : i0 = i
    · subst h1
      by_cases h2 : j0 = j
      · exact .inl ⟨rfl, h2⟩
      · right; simp only [cellAt, List.getElem?_set_self hi, he, Option.bind_some, hec, List.getElem?_set_ne (Ne.symm h2)]
    · right; simp only [cellAt, List.getElem?_set_ne (Ne.symm h1)]
  have hnew : cellAt (es.set i e') i j = some (.uslc ns') := by simp only [cellAt, List.getElem?_set_self hi, Option.bind_some, hec, List.getElem?_set_self hj]
  have hzn : ¬ G.Z (G.β (nest k i j)) := hr.nz k g _ hh rfl _ hR
  have x : Ext G h w G (h.set k (g, .arr s ver false (es.set i e'))) (w.setRow (G.β (nest k i j)) us') := by
    refine ⟨fun _ y => y, fun b hb' => setRow_other w _ _ _ fun e => hzn (e ▸ hb'), fun k' gn ob e0 => ?_⟩
    by_cases hkk : k' = k
    · subst hkk; rw [hh] at e0; cases e0
      refine ⟨g, _, List.getElem?_set_self hk, Nat.le_refl _, fun _ => ⟨fun sz' v' fr' es' e' => ?_, fun cs' e' => by cases e'⟩⟩
      cases e'
      refine ⟨ver, false, es, rfl, by simp, Nat.le_refl _, fun _ => SameKey.refl _ _, fun _ i0 j0 ns0 hc0 => ?_⟩
      rcases hcell i0 j0 with ⟨rfl, rfl⟩ | h1
      · have : cellAt es i0 j0 = some (.uslc ns) := cellAt_some he hc
        rw [this] at hc0; cases hc0
        exact ⟨ns', hnew, by omega, SameKey.refl _ _⟩
      · exact ⟨ns0, h1.trans hc0, rfl, SameKey.refl _ _⟩
    · exact ⟨gn, ob, by rw [List.getElem?_set_ne (Ne.symm hkk)]; exact e0, Nat.le_refl _, fun _ => Keep.refl k' ob (SameKey.refl _ _) fun i j => SameKey.refl _ _⟩
  have hbo : ∀ key, key ≠ nest k i j → G.R key → (w.setRow (G.β (nest k i j)) us').heap[G.β key]? = w.heap[G.β key]? := fun key hne hR' => setRow_other w _ _ _ fun e => hne (hr.inj _ _ hR' hR e)
  have hob := hr.ob k g _ hh
  unfold ORep at hob
  obtain ⟨o1, o2, o3, o4, o5⟩ := hob
  refine ⟨hr.update k g _ hk x (fun _ _ _ => .inl (SameKey.refl _ _)) (fun k' y hkk hR' => hbo _ (fun e => hkk (congrArg Prod.fst e)) hR') (by simp [World.setRow]) (fun b hb' => (hr.zb b hb').eq (x.zw b hb')) (fun b hb => .inl hb) (fun _ _ _ _ hn => hn) (fun y hR' => ?_) (fun _ _ _ e => by cases e) ?_, x⟩
  · obtain ⟨b1, b2⟩ := hr.lv _ hR'
    exact ⟨b1, b2.setRow, fun _ => hr.nz k g _ hh rfl y hR', fun y' hR2 e => congrArg Prod.snd (hr.inj _ _ hR' hR2 e), fun k' y' hkk hR2 e => hkk (congrArg Prod.fst (hr.inj _ _ hR' hR2 e)).symm⟩
  · unfold ORep
    refine ⟨o1, by simpa using o2, o3, fun hRr => ?_, fun hn' => ?_⟩
    · obtain ⟨us0, T0, o6, o7, o8⟩ := o4 hRr
      refine ⟨us0, T0, by rw [hbo _ (fun e => by simp at e) hRr]; exact o6, o7, fun i0 e0 he0 => ?_⟩
      have hcr : ∀ j0 c0 u0, cellAt es i0 j0 = some c0 → ¬ (i0 = i ∧ j0 = j) → CRep G h w k i0 j0 u0 c0 → CRep G (h.set k (g, .arr s ver false (es.set i e'))) (w.setRow (G.β (nest k i j)) us') k i0 j0 u0 c0 := fun j0 c0 u0 _ hne hcr =>
        hcr.ext x (SameKey.refl _ _) fun hR' => hbo _ (fun e => hne ⟨by simpa using congrArg (fun q : Key => (q.2.map Prod.fst)) e, by simpa using congrArg (fun q : Key => (q.2.map Prod.snd)) e⟩) hR'
      by_cases h1 : i0 = i
      · subst h1
        rw [List.getElem?_set_self hi] at he0; cases he0
        obtain ⟨o9, o10⟩ := o8 i0 e he
        rw [hec]
        refine ⟨by simpa using o9, fun j0 c0 hc0 => ?_⟩
        by_cases h2 : j0 = j
        · subst h2
          rw [List.getElem?_set_self hj] at hc0; cases hc0
          obtain ⟨u, o11, o12⟩ := o10 j0 _ hc
          refine ⟨u, o11, ?_⟩
          unfold CRep NRep at o12 ⊢
          refine ⟨fun _ => ?_, fun hn' => absurd hR hn'⟩
          obtain ⟨us1, T1, f, c, n1, n2, n3, n4, n5, n6, n7, n8, n9⟩ := o12.1 hR
          rw [hb] at n6; cases n6
          refine ⟨us', T, f, c, by rw [hlen]; exact n1, n2, by rw [hlen]; exact n3, n4, n5, setRow_heap w _ us us' T (0, 0) hb, by rw [hus]; exact n7, n8, fun m y hy => ?_⟩
          obtain ⟨q1, q2⟩ := hn m y hy
          refine ⟨q1, fun l c hc' => ?_⟩
          obtain ⟨q3, v, q4, q5⟩ := q2 l c hc'
          exact ⟨q3, v, q4, q5.mono x.zz x.zw⟩
        · rw [List.getElem?_set_ne (Ne.symm h2)] at hc0
          obtain ⟨u, o11, o12⟩ := o10 j0 c0 hc0
          exact ⟨u, o11, hcr j0 c0 u (cellAt_some he hc0) (fun e => h2 e.2) o12⟩
      · rw [List.getElem?_set_ne (Ne.symm h1)] at he0
        obtain ⟨o9, o10⟩ := o8 i0 e0 he0
        refine ⟨o9, fun j0 c0 hc0 => ?_⟩
        obtain ⟨u, o11, o12⟩ := o10 j0 c0 hc0
        exact ⟨u, o11, hcr j0 c0 u (cellAt_some he0 hc0) (fun e => h1 e.1) o12⟩
    · have := o5 hn'
      subst this
      simp at hi
theorem ecells_setE {e : PV} {j : Nat} {ds : List PV} (hl : j + ds.length ≤ (ecells e).length) (h0 : ds ≠ []) (hd : ∀ d, ds = [d] → ecells e = [e] → ecells d = [d]) : ecells (setE e j ds) = setAll (ecells e) j ds := by
  cases e
  case agg => rfl
  all_goals
    simp only [ecells, List.length_cons, List.length_nil] at hl
    match ds, h0, hl, hd with
    | [d], _, hl, hd =>
      simp at hl
      subst hl
      rw [show setE _ 0 [d] = d from rfl, hd d rfl rfl]; rfl
    | d :: d' :: ds, _, hl, _ => simp only [List.length_cons] at hl; omega
theorem ecell_match {m : Option Nat} {u : Value} {d : PV} {k i j : Nat} (hc : ECell G h w m u d) : CellOr G h w k i j m u d := by
  cases m with
  | none => obtain ⟨q1, q2⟩ := hc; cases d <;> first | (simp [one] at q1; done) | (unfold CellOr CRep; exact ⟨q1, q2⟩)
  | some k2 => exact hc
theorem below_row {g : Nat} {w0 w : World} (hb : Bl B w0 w) (hBg : B ≤ g) (cs : Array Value) {us : Array Value} {T : TypeId} {x : Nat × Nat} (hc : w.heap[g]? = some (.cells us T x)) : Bl B w0 (w.setRow g cs) :=
  hb.trans ⟨⟨rfl, rfl, rfl, by simp [World.setRow], fun k hk => setRow_other w g k cs (by omega)⟩, fun k o h1 h2 => by
    by_cases hk : k = g
    · subst hk; rw [hc] at h1; cases h1; cases h2
    · rw [setRow_other w g k cs hk]; exact h1⟩
/-- a store -/
theorem snd_storeP (hr : HRep B Z0 G h w) {hide : List Nat} {t : TypeId} {sz : Nat} {a v : Value} {pa pv : PV} {ws : List (Nat × Row)} (hs : sizeA P t = some sz) (h0 : sz ≠ 0) (ha : VRep G h w D a pa) (hv : VRep G h w D v pv)
    (hk : storeP (lkOf h hide) sz pa pv = some ws) : Good P B Z0 G h w (do Instr.storeAt t a v; pure .skip) .undef ws := by
  unfold storeP at hk
  split at hk
  case isFalse => cases hk
  rename_i hsz
  cases pa <;> (try (simp at hk; done)) <;> simp only [] at hk
  case ptr k g o =>
    split at hk
    · rename_i g' cs hlk
      split at hk
      · rename_i hc
        obtain ⟨rfl, hle, hone⟩ := hc
        simp only [Option.some.injEq] at hk
        subst hk
        have hh := lk_some hlk (by simp)
        unfold D at ha; unfold VRep at ha
        obtain ⟨b, rfl, gn, ob, h1, h2, h3⟩ := ha
        rw [hh] at h1; cases h1
        obtain rfl := h3 rfl cs rfl
        have hob := hr.ob k _ _ hh
        unfold ORep at hob
        obtain ⟨hR, us, T, h4, h5⟩ := hob
        have hvc := vcells hv hone
        have hvs : v.cells.size = sz := by rw [hvc.1, hsz]
        have hfit : o + v.cells.toList.length ≤ us.size := by rw [h5.1]; simpa [hvs] using hle
        have hrun := run_store_at (P := P) hs hvs (lrep_cells (fun u c y => oneCell_of y.1 y.2) hvc) h4 (by rw [h5.1]; exact hle)
        obtain ⟨t1, t2⟩ := setAll_spec (ecells pv) cs o (by rw [hsz]; exact hle)
        have hnew : LRep (fun v c => one c = true ∧ VRep G h w D v c) (putIn us o v.cells.toList) (setAll cs o (ecells pv)) := by
          refine ⟨by rw [putIn_size hfit, t1, h5.1], fun i c hc => ?_⟩
          rw [t2] at hc
          rw [putIn_get hfit]
          have hlen : v.cells.toList.length = (ecells pv).length := by simp [hvc.1]
          rw [hlen]
          split at hc
          · rename_i hr'; rw [if_pos hr']
            obtain ⟨u, g1, g2⟩ := hvc.2 _ c hc
            exact ⟨u, by simpa using g1, g2⟩
          · rename_i hr'; rw [if_neg hr']
            exact h5.2 i c hc
        obtain ⟨x1, x2⟩ := var_update hr hh h4 hnew
        exact ⟨_, undef, _, G, by simp [hrun], .inr ⟨rfl, rfl⟩, x1, x2, mk_undef, below_row (Bl.refl _ _) (hr.lv _ hR).1 _ (by assumption)⟩
      · cases hk
    · cases hk
  case eptr k g gl s i j =>
    split at hk
    · rename_i g' s' ver fr es hlk
      split at hk
      · rename_i hc
        obtain ⟨rfl, hgl, rfl, rfl⟩ := hc
        split at hk
        · rename_i e he
          split at hk
          · rename_i hle
            split at hk
            · rename_i ds ks hemb
              split at hk
              · cases hk
              · rename_i hkk
                have hkk : k ∉ ks := by simpa using hkk
                simp only [Option.some.injEq] at hk
                subst hk
                have hh := lk_some hlk (by simp)
                unfold D at ha; unfold VRep at ha
                obtain ⟨b, f, rfl, gn, ob, h1, h2, h3⟩ := ha
                rw [hh] at h1; cases h1
                obtain ⟨_, h3⟩ := h3 rfl _ _ _ _ rfl
                obtain ⟨rfl, h4, hil⟩ := h3 hgl
                have hf := h4 rfl
                subst hf
                have hone : (ecells pv).all one = true := by
                  refine List.all_eq_true.2 fun c hc => ?_
                  have : ∀ {cs : List PV} {ds : List PV} {ks : List Nat}, embCs (lkOf h hide) cs = some (ds, ks) → ∀ c ∈ cs, one c = true := by
                    intro cs
                    induction cs with
                    | nil => intro _ _ _ c hc; simp at hc
                    | cons c0 cs ih =>
                      intro ds ks hk c hc
                      simp only [embCs] at hk
                      split at hk
                      · rename_i hc0 hcs0
                        rcases List.mem_cons.1 hc with rfl | hc
                        · cases c <;> first | rfl | (simp [embC] at hc0)
                        · exact ih hcs0 c hc
                      · cases hk
                  exact this hemb c hc
                have hvc := vcells hv hone
                have hvs : v.cells.size = sz := by rw [hvc.1, hsz]
                obtain ⟨G1, mk, e1, e2, e3, e4, e5, e6, e7⟩ := embCs_spec (val := fun t => (v.cells[t]?).getD undef) hr (fun _ _ => rfl) (fun _ _ _ _ _ _ => rfl) (fun t c hc => by
                  obtain ⟨u, q1, q2, q3⟩ := hvc.2 t c hc
                  rw [q1]; exact ⟨q2, q3⟩) hemb
                have hh1 := (e3.other k hkk).trans hh
                obtain ⟨hR, us, T, h5, h6, h7, h8⟩ := ob_at e1 hh1 he
                have hβ : G1.β (root k) = G.β (root k) := by rw [e3.β]
                rw [hβ] at h5
                have hroom : i * s' + j + v.cells.toList.length ≤ us.size := by
                  have hob := e1.ob k _ _ hh1
                  unfold ORep at hob
                  rw [h6]
                  have : (i + 1) * s' ≤ G1.γ (root k) * s' := Nat.mul_le_mul_right _ (by omega)
                  rw [Nat.add_mul] at this
                  simp [hvs]; omega
                have hrun := run_store_at (P := P) (o := i * s' + j) hs hvs (lrep_cells (fun u c y => oneCell_of y.1 y.2) hvc) h5 (by simpa [hvs] using hroom)
                have hdl : ds.length = sz := by rw [e4, hsz]
                have hi : i < es.length := by omega
                have hse : ecells (setE e j ds) = setAll (ecells e) j ds := ecells_setE (by rw [hdl]; exact hle) (fun e0 => by rw [e0] at hdl; exact h0 hdl.symm) fun d hd _ => ecell_single (e5 0 d (by rw [hd]; rfl))
                obtain ⟨t1, t2⟩ := setAll_spec ds (ecells e) j (by rw [hdl]; exact hle)
                obtain ⟨x1, x2⟩ := dest_update (w' := w.setRow (G.β (root k)) (putIn us (i * s' + j) v.cells.toList)) (ver' := if (((ecells e).drop j).take sz).any isU || ds.any isU then ver + 1 else ver) (es' := es.set i (setE e j ds)) (γ0 := G1.γ (root k)) (b := G.β (root k))
                  (mk := fun a b => if a = i ∧ j ≤ b then mk (b - j) else none) e1 hh1 (.inl ⟨hR, hβ.symm, rfl⟩) (setRow_heap w _ us _ T (0, 0) h5) (fun x _ hx => setRow_other w _ _ _ hx) (by simp)
                  (fun a b k2 hm => by
                    try dsimp only at hm
                    split at hm
                    · obtain ⟨q1, q2⟩ := e6 _ _ hm
                      exact ⟨fun e => hkk (e ▸ q1), e3.dead k2 q1, fun hR2 => killed_nz hr e3 q1 (by rw [e3.R] at hR2; exact hR2)⟩
                    · cases hm)
                  (fun a b a' b' k2 hm hm' => by
                    try dsimp only at hm hm'
                    split at hm
                    · split at hm'
                      · rename_i q1 q2
                        have := e7 _ _ _ hm hm'
                        exact ⟨by omega, by omega⟩
                      · cases hm'
                    · cases hm)
                  (by rw [putIn_size hroom]; exact h6) (by
                    have hob := e1.ob k _ _ hh1
                    unfold ORep at hob
                    simpa using hob.2.1) (by
                    have hob := e1.ob k _ _ hh1
                    unfold ORep at hob
                    exact hob.2.2.1) (by simp) (by split <;> omega) (fun hver a b ns hcab => by
                    split at hver
                    · omega
                    · rename_i hU
                      simp only [Bool.or_eq_true, not_or] at hU
                      obtain ⟨u1, u2⟩ := hU
                      by_cases hai : a = i
                      · subst hai
                        simp only [cellAt, he, Option.bind_some] at hcab
                        by_cases hbj : j ≤ b ∧ b < j + ds.length
                        · exfalso
                          apply u1
                          refine List.any_eq_true.2 ⟨.uslc ns, List.mem_of_getElem? (i := b - j) ?_, rfl⟩
                          rw [List.getElem?_take, if_pos (by omega), List.getElem?_drop, show j + (b - j) = b by omega]; exact hcab
                        · refine ⟨ns, ?_, rfl, ?_⟩
                          · simp only [cellAt, List.getElem?_set_self hi, Option.bind_some, hse, t2, if_neg hbj]; exact hcab
                          · split
                            · rename_i q
                              cases hmm : mk (b - j) with
                              | none => rfl
                              | some k2 => exfalso; have := (e6 _ _ hmm).2; omega
                            · rfl
                      · exact ⟨ns, by simp only [cellAt, List.getElem?_set_ne (Ne.symm hai)]; exact hcab, rfl, by simp [hai]⟩)
                  (fun a ea hea => by
                    have hob := e1.ob k _ _ hh1
                    by_cases hai : a = i
                    · subst hai
                      rw [List.getElem?_set_self hi] at hea; cases hea
                      rw [hse]
                      refine ⟨by rw [t1, h7], fun b c hc => ?_⟩
                      rw [t2] at hc
                      rw [putIn_get hroom]
                      have hvl : v.cells.toList.length = ds.length := by rw [hdl]; simpa using hvs
                      rw [hvl]
                      split at hc
                      · rename_i hr'
                        rw [if_pos (by omega)]
                        have hec := e5 _ _ hc
                        have hlt : b - j < v.cells.size := by rw [hvs, ← hdl]; omega
                        refine ⟨v.cells[b - j], by rw [show a * s' + b - (a * s' + j) = b - j by omega]; simp [hlt], ?_⟩
                        rw [show ((v.cells[b - j]?).getD undef) = v.cells[b - j] by simp [hlt]] at hec
                        have hmk : (if a = a ∧ j ≤ b then mk (b - j) else none) = mk (b - j) := if_pos ⟨rfl, hr'.1⟩
                        try dsimp only
                        rw [hmk]
                        exact ecell_match hec
                      · rename_i hr'
                        rw [if_neg (by omega)]
                        obtain ⟨u, q1, q2⟩ := h8 b c hc
                        refine ⟨u, q1, ?_⟩
                        have : (if a = a ∧ j ≤ b then mk (b - j) else none) = none := by
                          split
                          · cases hmm : mk (b - j) with
                            | none => rfl
                            | some k2 => exfalso; have := (e6 _ _ hmm).2; omega
                          · rfl
                        try dsimp only
                        rw [this]; exact q2
                    · rw [List.getElem?_set_ne (Ne.symm hai)] at hea
                      obtain ⟨_, us2, T2, p1, p2, p3, p4⟩ := ob_at e1 hh1 hea
                      rw [hβ, h5] at p1; cases p1
                      refine ⟨p3, fun b c hc => ?_⟩
                      obtain ⟨u, q1, q2⟩ := p4 b c hc
                      have hz : (if a = i ∧ j ≤ b then mk (b - j) else none) = none := if_neg fun q => hai q.1
                      refine ⟨u, ?_, by try dsimp only
                                        rw [hz]; exact q2⟩
                      rw [putIn_get hroom, if_neg ?_]
                      · exact q1
                      · have hvl : v.cells.toList.length = sz := by simpa using hvs
                        have hbs : b < s' := by rw [← p3]; exact (List.getElem?_eq_some_iff.1 hc).1
                        rintro ⟨z1, z2⟩
                        rcases Nat.lt_or_gt_of_ne hai with hlt | hlt
                        · have : (a + 1) * s' ≤ i * s' := Nat.mul_le_mul_right _ (by omega)
                          rw [Nat.add_mul] at this; omega
                        · have : (i + 1) * s' ≤ a * s' := Nat.mul_le_mul_right _ (by omega)
                          rw [Nat.add_mul] at this; omega)
                refine ⟨.skip, undef, w.setRow (G.β (root k)) (putIn us (i * s' + j) v.cells.toList), G1.mv k (G.β (root k)) (G1.γ (root k)) (fun a b => if a = i ∧ j ≤ b then mk (b - j) else none), by simp [hrun], .inr ⟨rfl, rfl⟩, ?_, ?_, mk_undef, below_row (Bl.refl _ _) (hr.lv _ (by rw [e3.R] at hR; exact hR)).1 _ (by assumption)⟩
                · rw [upd_append]; exact x1
                · rw [upd_append]; exact e2.trans x2
            · cases hk
          · cases hk
        · cases hk
      · cases hk
    · cases hk
  case nptr k g ver s i j m l =>
    split at hk
    · rename_i g' s0 ver' fr es hlk
      split at hk
      · rename_i hc
        obtain ⟨rfl, rfl, rfl⟩ := hc
        split at hk
        · rename_i e he
          split at hk
          · rename_i ns hns
            split at hk
            · rename_i x hx
              split at hk
              · rename_i hc2
                obtain ⟨hxs, hle, hpure⟩ := hc2
                simp only [Option.some.injEq] at hk
                subst hk
                have hh := lk_some hlk (by simp)
                unfold D at ha; unfold VRep at ha
                obtain ⟨b, f, rfl, gn, ob, h1, h2, h3⟩ := ha
                rw [hh] at h1; cases h1
                obtain ⟨_, h3⟩ := h3 rfl _ _ _ _ rfl
                obtain ⟨ns', hns', rfl, h4, hml⟩ := h3 rfl
                rw [cellAt_some he hns] at hns'; cases hns'
                obtain ⟨hR, us, T, h5, h6, h7, h8⟩ := ob_at hr hh he
                obtain ⟨u0, h9, h10⟩ := h8 j _ hns
                unfold CRep NRep at h10
                have hRn : G.R (nest k i j) := by
                  refine Classical.byContradiction fun hc => ?_
                  obtain ⟨_, rfl⟩ := h10.2 hc
                  simp at hx
                obtain ⟨us2, T2, ff, cc, rfl, h10', h11, h12, h12', h13, h14, h15, h16⟩ := h10.1 hRn
                obtain ⟨h17, h18⟩ := h16 m x hx
                have hσ : G.σ (nest k i j) = s := by rw [← h17, hxs]
                have hf := h4 hσ
                subst hf
                have hone : (ecells pv).all one = true := List.all_eq_true.2 fun c hc => pure_one (List.all_eq_true.1 hpure c hc)
                have hvc := vcells hv hone
                have hvs : v.cells.size = sz := by rw [hvc.1, hsz]
                have hm : m < ns.length := (List.getElem?_eq_some_iff.1 hx).1
                have hroom : m * s + l + v.cells.toList.length ≤ us2.size := by
                  rw [h14, hσ]
                  have : (m + 1) * s ≤ G.γ (nest k i j) * s := Nat.mul_le_mul_right _ (by omega)
                  rw [Nat.add_mul] at this
                  simp [hvs]; omega
                have hrun := run_store_at (P := P) (o := m * s + l) hs hvs (lrep_cells (fun u c y => oneCell_of y.1 y.2) hvc) h13 (by simpa [hvs] using hroom)
                obtain ⟨t1, t2⟩ := setAll_spec (ecells pv) (ecells x) l (by rw [hsz, hxs]; exact hle)
                have hse : ecells (setE x l (ecells pv)) = setAll (ecells x) l (ecells pv) := ecells_setE (by rw [hsz, hxs]; exact hle) (fun e0 => by rw [e0] at hsz; exact h0 hsz.symm) fun d hd _ => by
                  have : d ∈ ecells pv := by rw [hd]; simp
                  have := List.all_eq_true.1 hpure d this
                  cases d <;> first | rfl | (simp [pureC] at this)
                have hse2 : ecells (setE e j [.uslc (ns.set m (setE x l (ecells pv)))]) = (ecells e).set j (.uslc (ns.set m (setE x l (ecells pv)))) := by
                  have hj := (List.getElem?_eq_some_iff.1 hns).1
                  rw [ecells_setE (by simp; omega) (by simp) (fun d hd _ => by simp at hd; subst hd; rfl)]; rfl
                obtain ⟨x1, x2⟩ := nest_update (us' := putIn us2 (m * s + l) v.cells.toList) hr hh he hns hRn h13 rfl hse2 (by simp) (putIn_size hroom) (fun a y hy => by
                  rw [hσ]
                  by_cases ham : a = m
                  · subst ham
                    rw [List.getElem?_set_self hm] at hy; cases hy
                    rw [hse]
                    refine ⟨by rw [t1, hxs], fun t c hc => ?_⟩
                    rw [t2] at hc
                    rw [putIn_get hroom]
                    have hvl : v.cells.toList.length = (ecells pv).length := by rw [hsz]; simpa using hvs
                    rw [hvl]
                    split at hc
                    · rename_i hr'
                      rw [if_pos (by omega)]
                      obtain ⟨u, q1, q2, q3⟩ := hvc.2 _ c hc
                      exact ⟨q2, u, by rw [show a * s + t - (a * s + l) = t - l by omega]; simpa using q1, vrep_pure (List.all_eq_true.1 hpure c (List.mem_of_getElem? hc)) q3⟩
                    · rename_i hr'
                      rw [if_neg (by omega)]
                      obtain ⟨q1, u, q2, q3⟩ := h18 t c hc
                      exact ⟨q1, u, by rw [← hσ]; exact q2, q3⟩
                  · rw [List.getElem?_set_ne (Ne.symm ham)] at hy
                    obtain ⟨p1, p2⟩ := h16 a y hy
                    refine ⟨by rw [p1, hσ], fun t c hc => ?_⟩
                    obtain ⟨q1, u, q2, q3⟩ := p2 t c hc
                    refine ⟨q1, u, ?_, q3⟩
                    rw [putIn_get hroom, if_neg ?_, ← hσ]
                    · exact q2
                    · have hvl : v.cells.toList.length = sz := by simpa using hvs
                      have hbs : t < s := by rw [← hσ, ← p1]; exact (List.getElem?_eq_some_iff.1 hc).1
                      rintro ⟨z1, z2⟩
                      rcases Nat.lt_or_gt_of_ne ham with hlt | hlt
                      · have : (a + 1) * s ≤ m * s := Nat.mul_le_mul_right _ (by omega)
                        rw [Nat.add_mul] at this; omega
                      · have : (m + 1) * s ≤ a * s := Nat.mul_le_mul_right _ (by omega)
                        rw [Nat.add_mul] at this; omega)
                exact ⟨.skip, undef, _, G, by simp [hrun], .inr ⟨rfl, rfl⟩, x1, x2, mk_undef, below_row (Bl.refl _ _) (hr.lv _ hRn).1 _ (by assumption)⟩
              · cases hk
            · cases hk
          · cases hk
        · cases hk
      · cases hk
    · cases hk
end
end Go.Proofs.Ytalgbgeocpbadaa.Am
