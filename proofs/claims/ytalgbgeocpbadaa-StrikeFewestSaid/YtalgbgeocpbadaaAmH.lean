/-
  .. operations that make memory.
-/
import Derived.Test.YtalgbgeocpbadaaAmG
namespace Go.Proofs.Ytalgbgeocpbadaa.Am
set_option linter.unusedSimpArgs false
set_option linter.unusedVariables false
set_option linter.unusedSectionVars false
open Go.RowKit
def Gh.put (G : Gh) (k b γ0 : Nat) : Gh :=
  { β := fun key => if key.1 = k then b else G.β key, R := fun key => if key.1 = k then key.2 = none else G.R key, γ := fun key => if key.1 = k then γ0 else G.γ key, σ := G.σ, Z := G.Z }
section
variable {P : Program} {B : Nat} {Z0 : Nat → Prop} {G : Gh} {h : Heap} {w w' : World}
theorem lk_gen {hide : List Nat} {k g : Nat} {ob : Ob} (hn : hide.contains k = false) (hh : h[k]? = some (g, ob)) : (lkOf h hide k).1 = g := by
  unfold lkOf
  rw [List.getD_eq_getElem?_getD, hh, if_neg (by rw [hn]; simp)]; rfl
theorem put_other {k b γ0 k' : Nat} {y : Option (Nat × Nat)} (hk : k' ≠ k) : SameKey G (G.put k b γ0) (k', y) := by
  refine ⟨?_, ?_, ?_, rfl⟩ <;> simp [Gh.put, hk]
/-- A NEW OBJECT in place of the object k -/
theorem alloc_obj (hr : HRep B Z0 G h w) {k g : Nat} {old : Ob} (hh : h[k]? = some (g, old)) {us : Array Value} {T : TypeId} {o' : Ob} (γ0 : Nat) (hw : w'.heap = w.heap.push (.cells us T (0, 0)))
    (hfr : ∀ sz ver es, o' = .arr sz ver true es → ∀ y, (G.put k w.heap.size γ0).R (k, y) → (G.put k w.heap.size γ0).Z ((G.put k w.heap.size γ0).β (k, y)))
    (ho : Ext G h w (G.put k w.heap.size γ0) (h.set k (g + 1, o')) w' → ORep (G.put k w.heap.size γ0) (h.set k (g + 1, o')) w' k o') :
    HRep B Z0 (G.put k w.heap.size γ0) (h.set k (g + 1, o')) w' ∧ Ext G h w (G.put k w.heap.size γ0) (h.set k (g + 1, o')) w' := by
  have hk : k < h.length := (List.getElem?_eq_some_iff.1 hh).1
  have hold : ∀ b, b < w.heap.size → w'.heap[b]? = w.heap[b]? := fun b hb => by rw [hw, Array.getElem?_push, if_neg (by omega)]
  have x : Ext G h w (G.put k w.heap.size γ0) (h.set k (g + 1, o')) w' := by
    refine ⟨fun _ y => y, fun b hb => hold b (hr.zb b hb).lt, fun k' gn ob e => ?_⟩
    by_cases hkk : k' = k
    · subst hkk
      rw [hh] at e; cases e
      exact ⟨g + 1, o', List.getElem?_set_self hk, by omega, fun e => by omega⟩
    · exact ⟨gn, ob, by rw [List.getElem?_set_ne (Ne.symm hkk)]; exact e, Nat.le_refl _, fun _ => Keep.refl k' ob (put_other hkk) fun i j => put_other hkk⟩
  refine ⟨hr.update k (g + 1) o' hk x (fun k' y hkk => .inl (put_other hkk)) (fun k' y hkk hR => hold _ (hr.lv _ hR).2.lt) (by rw [hw]; simp) (fun b hb => (hr.zb b hb).eq (x.zw b hb)) (fun b hb => .inl hb) (fun _ _ _ _ hn => hn) (fun y hR => ?_) hfr (ho x), x⟩
  have hy : y = none := by simpa [Gh.put] using hR
  subst hy
  have hβ : (G.put k w.heap.size γ0).β (k, none) = w.heap.size := by simp [Gh.put]
  rw [hβ]
  refine ⟨hr.base, ⟨us, T, (0, 0), by rw [hw]; simp⟩, fun _ hz => by have := (hr.zb _ hz).lt; omega, fun y' hR' _ => ?_, fun k' y' hkk hR' => ?_⟩
  · have : y' = none := by simpa [Gh.put] using hR'
    exact this.symm
  · obtain ⟨a1, a2, _⟩ := put_other (G := G) (b := w.heap.size) (γ0 := γ0) (y := y') hkk
    rw [a1]
    have := (hr.lv _ (a2.1 hR')).2.lt; omega
theorem below_push (hr : HRep B Z0 G h w) (o : Obj) : Bl B w (w.alloc o) := (Bl.refl _ _).alloc hr.base o
theorem alloc_heap (o : Obj) : (w.alloc o).heap = w.heap.push o := rfl
/-- a variable -/
theorem good_var (hr : HRep B Z0 G h w) {hide : List Nat} {k : Nat} (hk : k < h.length ∧ hide.contains k = false) {us : Array Value} {T : TypeId} {cs : List PV} (hu : LRep (fun v c => one c = true ∧ VRep G h w D v c) us cs)
    {s : Sem Next} (hs : s.run P w = .ok (.value (.pointer (some ⟨w.heap.size, 0, none⟩))) (w.alloc (.cells us T))) :
    Good P B Z0 G h w s (.ptr k ((lkOf h hide k).1 + 1) 0) [(k, ((lkOf h hide k).1 + 1, .var cs))] := by
  obtain ⟨⟨g, old⟩, hh⟩ : ∃ r, h[k]? = some r := ⟨_, List.getElem?_eq_getElem hk.1⟩
  rw [lk_gen hk.2 hh]
  obtain ⟨h1, h2⟩ := alloc_obj (w' := w.alloc (.cells us T)) (o' := .var cs) hr hh 0 rfl (fun _ _ _ e => by cases e) (fun x => by
    unfold ORep
    refine ⟨by simp [Gh.put], us, T, ?_, hu.mono fun v c y => ⟨y.1, y.2.ext x⟩⟩
    rw [show (G.put k w.heap.size 0).β (root k) = w.heap.size by simp [Gh.put]]
    exact heap_alloc_new w _)
  refine ⟨_, _, _, _, hs, .inl rfl, h1, h2, ?_, below_push hr _⟩
  unfold D; unfold VRep
  refine ⟨_, rfl, g + 1, .var cs, List.getElem?_set_self hk.1, Nat.le_refl _, fun _ cs' e => ?_⟩
  simp [Gh.put]
/-- an array -/
theorem good_arr (hr : HRep B Z0 G h w) {hide : List Nat} {k : Nat} (hk : k < h.length ∧ hide.contains k = false) {us : Array Value} {T : TypeId} {es : List PV} {sz cap : Nat} (hsz : 0 < sz) (hus : us.size = cap * sz) (hle : es.length ≤ cap) (hm : cap ≤ maxLen)
    (hu : ∀ (i : Nat) e, es[i]? = some e → (ecells e).length = sz ∧ ∀ (j : Nat) c, (ecells e)[j]? = some c → one c = true ∧ ∃ u, us[i * sz + j]? = some u ∧ VRep G h w D u c)
    {s : Sem Next} {w' : World} (hw : w'.heap = w.heap.push (.cells us T (0, 0))) (hb : Bl B w w') (hs : s.run P w = .ok (.value (.slice (some ⟨w.heap.size, 0, none⟩) es.length cap)) w') :
    Good P B Z0 G h w s (.own k ((lkOf h hide k).1 + 1) es.length sz 0 es.length) [(k, ((lkOf h hide k).1 + 1, .arr sz 0 false es))] := by
  obtain ⟨⟨g, old⟩, hh⟩ : ∃ r, h[k]? = some r := ⟨_, List.getElem?_eq_getElem hk.1⟩
  rw [lk_gen hk.2 hh]
  have hβ : (G.put k w.heap.size cap).β (root k) = w.heap.size := by simp [Gh.put]
  have hγ : (G.put k w.heap.size cap).γ (root k) = cap := by simp [Gh.put]
  have hR : (G.put k w.heap.size cap).R (root k) := by simp [Gh.put]
  obtain ⟨h1, h2⟩ := alloc_obj (w' := w') (o' := .arr sz 0 false es) hr hh cap hw (fun _ _ _ e => by cases e) (fun x => by
    unfold ORep
    rw [hβ, hγ]
    refine ⟨hsz, hle, hm, fun _ => ⟨us, T, by rw [hw]; simp, hus, fun i e he => ?_⟩, fun hn => absurd hR hn⟩
    obtain ⟨h3, h4⟩ := hu i e he
    refine ⟨h3, fun j c hc => ?_⟩
    obtain ⟨h5, u, h6, h7⟩ := h4 j c hc
    refine ⟨u, h6, ?_⟩
    have h8 := h7.ext x
    cases c <;> first | (simp [one] at h5; done) | (unfold CRep; exact ⟨h5, h8⟩))
  refine ⟨_, _, _, _, hs, .inl rfl, h1, h2, ?_, hb⟩
  unfold D; unfold VRep
  refine ⟨_, _, rfl, hle, hm, .inr ⟨_, _, rfl⟩, g + 1, .arr sz 0 false es, List.getElem?_set_self hk.1, Nat.le_refl _, fun _ sz' ver fr es' e => ?_⟩
  cases e
  refine ⟨Nat.le_refl _, fun _ => ⟨by omega, fun _ => ⟨0, by rw [hβ], .inr (by simp), by omega, by rw [hγ]; omega⟩, fun hn => absurd hR hn⟩⟩

theorem lrep_one {v : Value} {z : PV} (hk : ofV v = some z) : LRep (fun u c => one c = true ∧ VRep G h w D u c) v.cells (ecells z) :=
  let x := ofV_rep (G := G) (h := h) (w := w) hk
  vcells x.1 x.2
theorem snd_alloc (hr : HRep B Z0 G h w) {hide : List Nat} {k : Nat} (hk : k < h.length ∧ hide.contains k = false) {t : TypeId} {z : PV} (hz : zeroA P t = some z) :
    Good P B Z0 G h w (do pure (.value (← Instr.alloc t true (.tuple #[])))) (.ptr k ((lkOf h hide k).1 + 1) 0) [(k, ((lkOf h hide k).1 + 1, .var (ecells z)))] := by
  obtain ⟨i, v, h1, h2, h3⟩ := zeroA_some hz
  refine good_var hr hk (T := t) (us := v.cells) (lrep_one h3) ?_
  simp [Instr.alloc, run_zero h1 h2, newVar, newRow]
theorem snd_box (hr : HRep B Z0 G h w) {hide : List Nat} {k : Nat} (hk : k < h.length ∧ hide.contains k = false) {t : TypeId} {v : Value} {p : PV} (hv : VRep G h w D v p) (ho : (ecells p).all one = true) :
    Good P B Z0 G h w (do pure (.value (← Instr.box t v))) (.ptr k ((lkOf h hide k).1 + 1) 0) [(k, ((lkOf h hide k).1 + 1, .var (ecells p)))] := by
  refine good_var hr hk (T := t) (us := v.cells) (vcells hv ho) ?_
  simp [Instr.box, newVar, newRow]
/-- the first n elements, all alike -/
theorem made_get {z : Array Value} {n i : Nat} (hz : 0 < z.size) (hi : i < n) : (madeCells z n)[i]? = z[i % z.size]? := by
  have hm : i % z.size < z.size := Nat.mod_lt _ hz
  simp [madeCells, hi, hm]
theorem mod_elem {i j sz : Nat} (hj : j < sz) : (i * sz + j) % sz = j := by
  rw [Nat.add_comm, Nat.add_mul_mod_self_right, Nat.mod_eq_of_lt hj]
theorem ecells_purE (e : PV) : ecells (purE e) = (ecells e).map purC := by cases e <;> rfl
theorem purC_one {u : Value} {c : PV} (ho : one c = true) (hv : VRep G h w D u c) : one (purC c) = true ∧ VRep G h w D u (purC c) := by
  by_cases hc : c = .nils
  · subst hc
    obtain rfl := rep_nils hv
    exact ⟨rfl, mk_slc (PR.slc_iff.2 ⟨none, 0, 0, rfl, Nat.le_refl _, Nat.zero_le _, fun _ => rfl, fun i e he => by simp at he⟩)⟩
  · have e : purC c = c := by cases c <;> first | rfl | exact absurd rfl hc
    rw [e]; exact ⟨ho, hv⟩
theorem snd_makeSlice (hr : HRep B Z0 G h w) {hide : List Nat} {k sz by_ : Nat} (hk : k < h.length ∧ hide.contains k = false) {t e : TypeId} {z : PV} {l c : Int} (hu : elemA P t = some e) (hs : sizeA P e = some sz) (hb : bytesA P e = some by_) (hz : zeroA P e = some z)
    (h0 : sz ≠ 0) (hzl : (ecells z).length = sz) (c1 : 0 ≤ l) (c2 : l ≤ c) (c3 : c * by_ ≤ 140737488355328) (c4 : c ≤ 9223372036854775807) :
    Good P B Z0 G h w (do pure (.value (← Instr.makeSlice t (.int .i64 l) (.int .i64 c)))) (.own k ((lkOf h hide k).1 + 1) l.toNat sz 0 l.toNat) [(k, ((lkOf h hide k).1 + 1, .arr sz 0 false (List.replicate l.toNat (purE z))))] := by
  obtain ⟨i, v, h1, h2, h3⟩ := zeroA_some hz
  obtain ⟨i', hi, rfl⟩ := sizeA_some hs
  rw [h1] at hi; cases hi
  have hby : i.bytes = by_ := by unfold bytesA at hb; rw [h1] at hb; simpa using hb
  have hle : (i.bytes : Int) * c ≤ 281474976710656 := by rw [hby, Int.mul_comm]; omega
  have hrun := run_make (P := P) w t e i v (elemA_some hu) h1 h2 .i64 .i64 l c c1 c2 hle c4
  have hlz := lrep_one (G := G) (h := h) (w := w) h3
  have hvs : v.cells.size = i.size := by rw [hlz.1, hzl]
  have := good_arr (P := P) hr (hide := hide) hk (us := madeCells v.cells (c.toNat * i.size)) (T := e) (es := List.replicate l.toNat (purE z)) (cap := c.toNat) (sz := i.size) (by omega) (size_madeCells _ _) (by simp; omega) (by unfold maxLen; omega)
    (fun a x hx => by
      have hx' := List.eq_of_mem_replicate (List.mem_of_getElem? hx)
      subst hx'
      have ha : a < l.toNat := by have := (List.getElem?_eq_some_iff.1 hx).1; simpa using this
      rw [ecells_purE]
      refine ⟨by simpa using hzl, fun j cc hj => ?_⟩
      rw [List.getElem?_map] at hj
      obtain ⟨c0, hj0, rfl⟩ := Option.map_eq_some_iff.1 hj
      obtain ⟨u, g1, g2, g3⟩ := hlz.2 j c0 hj0
      obtain ⟨g4, g5⟩ := purC_one g2 g3
      have hjs : j < i.size := by rw [← hzl]; exact (List.getElem?_eq_some_iff.1 hj0).1
      refine ⟨g4, u, ?_, g5⟩
      rw [made_get (by omega)]
      · rw [hvs, mod_elem hjs]; exact g1
      · have : (a + 1) * i.size ≤ c.toNat * i.size := Nat.mul_le_mul_right _ (by omega)
        rw [Nat.add_mul] at this; omega)
    (s := do pure (.value (← Instr.makeSlice t (.int .i64 l) (.int .i64 c)))) (w' := w.alloc (.cells (madeCells v.cells (c.toNat * i.size)) e)) rfl (below_push hr _) (by simp [hrun])
  simpa using this
/-- the elements of a list that is written out -/
inductive PartsI (G : Gh) (h : Heap) (w : World) : List (Nat × Value) → List (Nat × PV) → Prop
  | nil : PartsI G h w [] []
  | cons {i v p l m} : VRep G h w D v p → PartsI G h w l m → PartsI G h w ((i, v) :: l) ((i, p) :: m)
def ARep (G : Gh) (h : Heap) (w : World) (sz : Nat) (A : Array Value) (es : List PV) : Prop := A.size = es.length * sz ∧ ∀ (i : Nat) e, es[i]? = some e → (ecells e).length = sz ∧ ∀ (j : Nat) c, (ecells e)[j]? = some c → one c = true ∧ ∃ u, A[i * sz + j]? = some u ∧ VRep G h w D u c
theorem fill_arr {sz : Nat} (hsz : 0 < sz) {parts : List (Nat × Value)} {xs : List (Nat × PV)} (hp : PartsI G h w parts xs) : ∀ {A : Array Value} {es es' : List PV}, ARep G h w sz A es → mkarrP sz es xs = some es' →
    ∃ A', Instr.fill (fun i => some (i * sz, sz)) A parts = some A' ∧ ARep G h w sz A' es' ∧ es'.length = es.length := by
  induction hp with
  | nil => intro A es es' hA hk; simp [mkarrP] at hk; subst hk; exact ⟨A, rfl, hA, rfl⟩
  | @cons i v p l m h2 h3 ih =>
    intro A es es' hA hk
    simp only [mkarrP] at hk
    split at hk
    · rename_i hc
      obtain ⟨c1, c2, c3⟩ := hc
      have hvc := vcells h2 c3
      have hsz2 : v.cells.size = sz := by rw [hvc.1, c1]
      have hroom : i * sz + sz ≤ A.size := by
        rw [hA.1]
        have : (i + 1) * sz ≤ es.length * sz := Nat.mul_le_mul_right _ (by omega)
        rw [Nat.add_mul] at this; omega
      obtain ⟨s1, s2⟩ := foldset_arr (i * sz) v.cells A (by rw [hsz2]; exact hroom)
      have hnew : ARep G h w sz (v.cells.zipIdx.foldl (fun (cs : Array Value) (x : Value × Nat) => cs.setIfInBounds (i * sz + x.2) x.1) A) (es.set i p) := by
        refine ⟨by rw [s1, hA.1]; simp, fun t e ht => ?_⟩
        by_cases hti : t = i
        · subst hti
          rw [List.getElem?_set_self c2] at ht
          cases ht
          refine ⟨c1, fun j c hj => ?_⟩
          have hjs : j < sz := by rw [← c1]; exact (List.getElem?_eq_some_iff.1 hj).1
          obtain ⟨u, g1, g2, g3⟩ := hvc.2 j c hj
          refine ⟨g2, u, ?_, g3⟩
          rw [s2, if_pos (by omega), show t * sz + j - t * sz = j by omega]; exact g1
        · rw [List.getElem?_set_ne (Ne.symm hti)] at ht
          obtain ⟨g1, g2⟩ := hA.2 t e ht
          refine ⟨g1, fun j c hj => ?_⟩
          have hjs : j < sz := by rw [← g1]; exact (List.getElem?_eq_some_iff.1 hj).1
          obtain ⟨g3, u, g4, g5⟩ := g2 j c hj
          refine ⟨g3, u, ?_, g5⟩
          rw [s2, if_neg ?_]
          · exact g4
          · rw [hsz2]
            rintro ⟨q1, q2⟩
            rcases Nat.lt_or_gt_of_ne hti with hlt | hlt
            · have : (t + 1) * sz ≤ i * sz := Nat.mul_le_mul_right _ (by omega)
              rw [Nat.add_mul] at this; omega
            · have : (i + 1) * sz ≤ t * sz := Nat.mul_le_mul_right _ (by omega)
              rw [Nat.add_mul] at this; omega
      obtain ⟨A', h4, h5, h6⟩ := ih hnew hk
      refine ⟨A', ?_, h5, by simpa using h6⟩
      simp only [Instr.fill]
      have hcond : (decide (v.cells.size ≠ sz) || decide (i * sz + v.cells.size > A.size)) = false := by
        simp [hsz2]; omega
      simp only [hcond, Bool.false_eq_true, if_false]
      exact h4
    · cases hk
theorem run_buildSlice {sz n : Nat} {t e : TypeId} {z : PV} {parts : Array (Nat × Value)} {xs : List (Nat × PV)} {es : List PV} (hu : elemA P t = some e) (hs : sizeA P e = some sz) (hz : zeroA P e = some z)
    (h0 : sz ≠ 0) (hn : n * sz ≤ 16777216) (hzl : (ecells z).length = sz) (hp : PartsI G h w parts.toList xs) (hm : mkarrP sz (List.replicate n z) xs = some es) :
    ∃ A', (Instr.buildSlice t n parts).run P w = .ok (.slice (some ⟨w.heap.size, 0, none⟩) n n) (w.alloc (.cells A' e)) ∧ ARep G h w sz A' es ∧ es.length = n ∧ n ≤ 16777216 := by
  obtain ⟨i, v, h1, h2, h3⟩ := zeroA_some hz
  obtain ⟨i', hi, rfl⟩ := sizeA_some hs
  rw [h1] at hi; cases hi
  have hlz := lrep_one (G := G) (h := h) (w := w) h3
  have hvs : v.cells.size = i.size := by rw [hlz.1, hzl]
  have hA : ARep G h w i.size (madeCells v.cells (n * i.size)) (List.replicate n z) := by
    refine ⟨by rw [size_madeCells]; simp, fun a x hx => ?_⟩
    have hx' := List.eq_of_mem_replicate (List.mem_of_getElem? hx)
    subst hx'
    have ha : a < n := by have := (List.getElem?_eq_some_iff.1 hx).1; simpa using this
    refine ⟨hzl, fun j cc hj => ?_⟩
    obtain ⟨u, g1, g2, g3⟩ := hlz.2 j cc hj
    have hjs : j < i.size := by rw [← hzl]; exact (List.getElem?_eq_some_iff.1 hj).1
    refine ⟨g2, u, ?_, g3⟩
    rw [made_get (by omega)]
    · rw [hvs, mod_elem hjs]; exact g1
    · have : (a + 1) * i.size ≤ n * i.size := Nat.mul_le_mul_right _ (by omega)
      rw [Nat.add_mul] at this; omega
  obtain ⟨A', h4, h5, h6⟩ := fill_arr (by omega) hp hA hm
  have hlen : es.length = n := by simpa using h6
  have hrun : (Instr.buildSlice t n parts).run P w = .ok (.slice (some ⟨w.heap.size, 0, none⟩) n n) (w.alloc (.cells A' e)) := by
    have hlim : ¬ (16777216 < n * i.size) := by omega
    by_cases hz0 : n * i.size = 0
    · have hn0 : n = 0 := by
        rcases Nat.mul_eq_zero.1 hz0 with x | x
        · exact x
        · exact absurd x h0
      subst hn0
      have hmade : madeCells v.cells 0 = #[] := by simp [madeCells, Array.range_zero']
      rw [Nat.zero_mul, hmade] at h4
      have h4' : Instr.fill (fun x => some (x * i.size, i.size)) (Array.map (fun x => default) (Array.range 0)) parts.toList = some A' := by rw [← h4]; congr 1; simp [Array.range_zero']
      simp [Instr.buildSlice, run_underlying (elemA_some hu), sizeOf, typeInfo, h1, h4', newRow]
    · have hrz := run_zero (w := w) h1 h2
      simp only [madeCells] at h4
      simp [Instr.buildSlice, run_underlying (elemA_some hu), sizeOf, typeInfo, h1, hlim, hz0, hrz, h4, newRow]
  have hbound : n ≤ 16777216 := by
    have : n * 1 ≤ n * i.size := Nat.mul_le_mul_left _ (by omega)
    omega
  exact ⟨A', hrun, h5, hlen, hbound⟩
theorem snd_buildSlice (hr : HRep B Z0 G h w) {hide : List Nat} {k sz n : Nat} (hk : k < h.length ∧ hide.contains k = false) {t e : TypeId} {z : PV} {parts : Array (Nat × Value)} {xs : List (Nat × PV)} {es : List PV} (hu : elemA P t = some e) (hs : sizeA P e = some sz) (hz : zeroA P e = some z)
    (h0 : sz ≠ 0) (hn : n * sz ≤ 16777216) (hzl : (ecells z).length = sz) (hp : PartsI G h w parts.toList xs) (hm : mkarrP sz (List.replicate n z) xs = some es) :
    Good P B Z0 G h w (do pure (.value (← Instr.buildSlice t n parts))) (.own k ((lkOf h hide k).1 + 1) es.length sz 0 es.length) [(k, ((lkOf h hide k).1 + 1, .arr sz 0 false es))] := by
  obtain ⟨A', hrun, h5, hlen, hbound⟩ := run_buildSlice (P := P) hu hs hz h0 hn hzl hp hm
  exact good_arr (P := P) hr (hide := hide) hk (us := A') (T := e) (es := es) (cap := n) (sz := sz) (by omega) (by rw [h5.1, hlen]) (by omega) (by unfold maxLen; omega) h5.2 (w' := w.alloc (.cells A' e)) rfl (below_push hr _) (by simp [hrun, hlen])
/-- a new block that nobody writes to -/
theorem push_frozen (hr : HRep B Z0 G h w) (o : Obj) (hoc : ∃ us T x, o = .cells us T x) : HRep B Z0 { G with Z := fun b => G.Z b ∨ b = w.heap.size } h (w.alloc o) ∧ Ext G h w { G with Z := fun b => G.Z b ∨ b = w.heap.size } h (w.alloc o) := by
  have hold : ∀ b, b < w.heap.size → (w.alloc o).heap[b]? = w.heap[b]? := fun b hb => by
    rw [alloc_heap, Array.getElem?_push]; split
    · omega
    · rfl
  have hsz : (w.alloc o).heap.size = w.heap.size + 1 := by rw [alloc_heap]; simp
  have x : Ext G h w { G with Z := fun b => G.Z b ∨ b = w.heap.size } h (w.alloc o) :=
    ⟨fun _ y => .inl y, fun b hb => hold b (hr.zb b hb).lt, fun k gn ob e => ⟨gn, ob, e, Nat.le_refl _, fun _ => Keep.refl k ob ⟨rfl, Iff.rfl, rfl, rfl⟩ fun _ _ => ⟨rfl, Iff.rfl, rfl, rfl⟩⟩⟩
  refine ⟨⟨by rw [hsz]; have := hr.base; omega, ?_, ?_, fun key hk => ?_, ?_, fun k g sz ver es hh y hR => .inl (hr.fz k g sz ver es hh y hR), hr.inj, fun k g ob hh => ?_⟩, x⟩
  · rintro b (hb | rfl)
    · exact hr.zo b hb
    · exact .inr hr.base
  · rintro b (hb | rfl)
    · exact (hr.zb b hb).eq (hold b (hr.zb b hb).lt)
    · obtain ⟨us, T, x0, rfl⟩ := hoc
      exact ⟨us, T, x0, heap_alloc_new w _⟩
  · have := hr.lv key hk
    exact ⟨this.1, this.2.eq (hold _ this.2.lt)⟩
  · rintro k g ob hh hl y hR (hb | hb)
    · exact hr.nz k g ob hh hl y hR hb
    · have h1 := (hr.lv (k, y) hR).2.lt
      have hb' : G.β (k, y) = w.heap.size := hb
      omega
  · exact (hr.ob k g ob hh).ext x (fun y => ⟨rfl, Iff.rfl, rfl, rfl⟩) fun y hR => hold _ (hr.lv _ hR).2.lt
theorem purC_rep {u : Value} {c : PV} {Z' : Nat → Prop} (hz : ∀ b, G.Z b → Z' b) {w' : World} (hw : ∀ b, G.Z b → w'.heap[b]? = w.heap[b]?) (hp : pureC (purC c) = true) (hv : VRep G h w D u c) : one (purC c) = true ∧ PR Z' w' u (purC c) := by
  by_cases hc : c = .nils
  · subst hc
    obtain rfl := rep_nils hv
    exact ⟨rfl, PR.slc_iff.2 ⟨none, 0, 0, rfl, Nat.le_refl _, Nat.zero_le _, fun _ => rfl, fun i e he => by simp at he⟩⟩
  · have e : purC c = c := by cases c <;> first | rfl | exact absurd rfl hc
    rw [e] at hp ⊢
    refine ⟨by cases c <;> first | rfl | (simp [pureC] at hp), ?_⟩
    have hpr : PR G.Z w u c := by
      cases c <;> first | (simp [pureC] at hp; done) | exact rep_slc hv | (unfold D at hv; unfold VRep at hv; exact ⟨0, by unfold PRep; exact hv⟩)
    exact hpr.mono hz hw
theorem snd_lit (hr : HRep B Z0 G h w) {sz n : Nat} {t e : TypeId} {z : PV} {parts : Array (Nat × Value)} {xs : List (Nat × PV)} {es : List PV} (hu : elemA P t = some e) (hs : sizeA P e = some sz) (hz : zeroA P e = some z)
    (h0 : sz ≠ 0) (hn : n * sz ≤ 16777216) (hzl : (ecells z).length = sz) (hp : PartsI G h w parts.toList xs) (hm : mkarrP sz (List.replicate n z) xs = some es) (hpu : es.all (fun e => (ecells (purE e)).all pureC) = true) :
    Good P B Z0 G h w (do pure (.value (← Instr.buildSlice t n parts))) (.slc (es.map purE)) [] := by
  obtain ⟨A', hrun, h5, hlen, hbound⟩ := run_buildSlice (P := P) hu hs hz h0 hn hzl hp hm
  obtain ⟨p1, p2⟩ := push_frozen hr (.cells A' e) ⟨_, _, _, rfl⟩
  refine ⟨.value (.slice (some ⟨w.heap.size, 0, none⟩) n n), _, w.alloc (.cells A' e), _, by simp [hrun], .inl rfl, p1, p2, mk_slc (PR.slc_iff.2 ⟨some ⟨w.heap.size, 0, none⟩, n, sz, by simp [hlen], by simp [hlen], by unfold maxLen; omega, by simp, fun i x hx => ?_⟩), below_push hr _⟩
  rw [List.getElem?_map] at hx
  obtain ⟨x0, hx0, rfl⟩ := Option.map_eq_some_iff.1 hx
  obtain ⟨g1, g2⟩ := h5.2 i x0 hx0
  rw [ecells_purE]
  refine ⟨by simpa using g1, _, _, rfl, .inr rfl, fun j c hc => ?_⟩
  rw [List.getElem?_map] at hc
  obtain ⟨c0, hc0, rfl⟩ := Option.map_eq_some_iff.1 hc
  obtain ⟨_, u, g3, g4⟩ := g2 j c0 hc0
  have hpc : pureC (purC c0) = true := by
    have h1 := List.all_eq_true.1 hpu x0 (List.mem_of_getElem? hx0)
    rw [ecells_purE] at h1
    exact List.all_eq_true.1 h1 _ (List.mem_map.2 ⟨c0, List.mem_of_getElem? hc0, rfl⟩)
  obtain ⟨g5, g6⟩ := purC_rep (Z' := fun b => G.Z b ∨ b = w.heap.size) (w' := w.alloc (.cells A' e)) (fun b hb => .inl hb) p2.zw hpc g4
  refine ⟨g5, u, ?_, g6⟩
  rw [block_cell (heap_alloc_new w _), Nat.zero_add]; exact g3
end
end Go.Proofs.Ytalgbgeocpbadaa.Am
