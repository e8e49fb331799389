/-
  The plain machine and that it is sound, part 2.
-/
import Derived.Test.YtgdcogoacnghkaaMg1
import Derived.Laws.StructEq
import Derived.Laws.BytesString
import Derived.MapKept
/-
  .. an array is written to.
-/
namespace Go.Proofs.Ytgdcogoacnghkaa.Am
set_option linter.unusedSimpArgs false
set_option linter.unusedVariables false
set_option linter.unusedSectionVars false
open Go.RowKit
def moved (mk : Nat → Nat → Option Nat) (k : Nat) : Prop := ∃ i j, mk i j = some k
/-- where a key's block was known before -/
def srcKey (k : Nat) (mk : Nat → Nat → Option Nat) : Key → Key
  | (k', some (i, j)) => if k' = k then (match mk i j with | some k2 => root k2 | none => (k', some (i, j))) else (k', some (i, j))
  | (k', none) => (k', none)
def Gh.mv (G : Gh) (k b γ0 : Nat) (mk : Nat → Nat → Option Nat) : Gh :=
  { β := fun key => if key = root k then b else G.β (srcKey k mk key)
    R := fun key => if key = root k then True else (key.2 = none → ¬ moved mk key.1) ∧ G.R (srcKey k mk key)
    γ := fun key => if key = root k then γ0 else G.γ (srcKey k mk key)
    σ := fun key => G.σ (srcKey k mk key)
    Z := G.Z }
section
variable {P : Program} {B : Nat} {Z0 : Nat → Prop} {G G' : Gh} {h h' : Heap} {w w' : World}
theorem src_other {k k' : Nat} {mk : Nat → Nat → Option Nat} {y : Option (Nat × Nat)} (hk : k' ≠ k) : srcKey k mk (k', y) = (k', y) := by
  cases y with
  | none => rfl
  | some ij => obtain ⟨i, j⟩ := ij; simp [srcKey, hk]
theorem src_none {k i j : Nat} {mk : Nat → Nat → Option Nat} (hm : mk i j = none) : srcKey k mk (nest k i j) = nest k i j := by simp [srcKey, hm]
theorem src_some {k k2 i j : Nat} {mk : Nat → Nat → Option Nat} (hm : mk i j = some k2) : srcKey k mk (nest k i j) = root k2 := by simp [srcKey, hm]
theorem mv_other {k b γ0 k' : Nat} {mk : Nat → Nat → Option Nat} {y : Option (Nat × Nat)} (hk : k' ≠ k) (hm : y = none → ¬ moved mk k') : SameKey G (G.mv k b γ0 mk) (k', y) := by
  have hne : ((k', y) : Key) ≠ root k := fun e => hk (congrArg Prod.fst e)
  refine ⟨?_, ?_, ?_, ?_⟩
  · simp only [Gh.mv, if_neg hne, src_other hk]
  · simp only [Gh.mv, if_neg hne, src_other hk]; exact ⟨fun x => x.2, fun x => ⟨hm, x⟩⟩
  · simp only [Gh.mv, if_neg hne, src_other hk]
  · simp only [Gh.mv, src_other hk]
theorem mv_nest {k b γ0 i j : Nat} {mk : Nat → Nat → Option Nat} (hm : mk i j = none) : SameKey G (G.mv k b γ0 mk) (nest k i j) := by
  have hne : (nest k i j : Key) ≠ root k := fun e => by simp at e
  refine ⟨?_, ?_, ?_, ?_⟩ <;> simp only [Gh.mv, if_neg hne, src_none hm]
  exact ⟨fun x => x.2, fun x => ⟨fun e => by simp at e, x⟩⟩
theorem mv_moved {k b γ0 i j k2 : Nat} {mk : Nat → Nat → Option Nat} (hm : mk i j = some k2) : (G.mv k b γ0 mk).β (nest k i j) = G.β (root k2) ∧ ((G.mv k b γ0 mk).R (nest k i j) ↔ G.R (root k2)) ∧ (G.mv k b γ0 mk).γ (nest k i j) = G.γ (root k2) ∧ (G.mv k b γ0 mk).σ (nest k i j) = G.σ (root k2) := by
  have hne : (nest k i j : Key) ≠ root k := fun e => by simp at e
  refine ⟨?_, ?_, ?_, ?_⟩ <;> simp only [Gh.mv, if_neg hne, src_some hm]
  exact ⟨fun x => x.2, fun x => ⟨fun e => by simp at e, x⟩⟩
/-- a cell as it was, or an array that moves there -/
def CellOr (G : Gh) (h : Heap) (w : World) (k i j : Nat) (m : Option Nat) (u : Value) (c : PV) : Prop :=
  match m with
  | some k2 => ∃ ns, c = .uslc ns ∧ NRep G w (root k2) u ns
  | none => CRep G h w k i j u c
/-- WHAT AN ARRAY HOLDS IS CHANGED: in place, or in a new block; arrays that were given up may have moved into it -/
theorem dest_update (hr : HRep B Z0 G h w) {k g s ver ver' γ0 b : Nat} {es es' : List PV} {us' : Array Value} {T : TypeId} {mk : Nat → Nat → Option Nat} (hh : h[k]? = some (g, .arr s ver false es))
    (hwhere : (G.R (root k) ∧ b = G.β (root k) ∧ γ0 = G.γ (root k)) ∨ (b = w.heap.size ∧ es.length < es'.length))
    (hnew : w'.heap[b]? = some (.cells us' T (0, 0))) (hold : ∀ x, x < w.heap.size → x ≠ b → w'.heap[x]? = w.heap[x]?) (hsz : w.heap.size ≤ w'.heap.size)
    (hm1 : ∀ i j k2, mk i j = some k2 → k2 ≠ k ∧ (∃ g2, h[k2]? = some (g2, .dead)) ∧ (G.R (root k2) → ¬ G.Z (G.β (root k2)))) (hm2 : ∀ i j i' j' k2, mk i j = some k2 → mk i' j' = some k2 → i = i' ∧ j = j')
    (c1 : us'.size = γ0 * s) (c2 : es'.length ≤ γ0) (c3 : γ0 ≤ maxLen) (c4 : es.length ≤ es'.length) (c5 : ver ≤ ver')
    (c6 : ver' = ver → ∀ i j ns, cellAt es i j = some (.uslc ns) → ∃ ns', cellAt es' i j = some (.uslc ns') ∧ ns.length = ns'.length ∧ mk i j = none)
    (he : ∀ (i : Nat) e, es'[i]? = some e → (ecells e).length = s ∧ ∀ (j : Nat) c, (ecells e)[j]? = some c → ∃ u, us'[i * s + j]? = some u ∧ CellOr G h w k i j (mk i j) u c) :
    HRep B Z0 (G.mv k b γ0 mk) (h.set k (g, .arr s ver' false es')) w' ∧ Ext G h w (G.mv k b γ0 mk) (h.set k (g, .arr s ver' false es')) w' := by
  have hk : k < h.length := (List.getElem?_eq_some_iff.1 hh).1
  have hob := hr.ob k g _ hh
  unfold ORep at hob
  obtain ⟨o1, o2, o3, o4, o5⟩ := hob
  have hbz : ¬ G.Z b := by
    rcases hwhere with ⟨h1, rfl, _⟩ | ⟨rfl, _⟩
    · exact hr.nz k g _ hh rfl none h1
    · intro hz; have := (hr.zb _ hz).lt; omega
  have hbB : B ≤ b := by
    rcases hwhere with ⟨h1, rfl, _⟩ | ⟨rfl, _⟩
    · exact (hr.lv _ h1).1
    · exact hr.base
  have hbne : ∀ key, key ≠ root k → G.R key → G.β key ≠ b := fun key hne hR e => by
    rcases hwhere with ⟨h1, rfl, _⟩ | ⟨rfl, _⟩
    · exact hne (hr.inj _ _ hR h1 e)
    · have := (hr.lv _ hR).2.lt; omega
  have hbsame : ∀ key, key ≠ root k → G.R key → w'.heap[G.β key]? = w.heap[G.β key]? := fun key hne hR => hold _ (hr.lv _ hR).2.lt (hbne key hne hR)
  have hnm : ¬ moved mk k := fun ⟨i, j, hm⟩ => (hm1 i j k hm).1 rfl
  have hsame : ∀ k' y, k' ≠ k → SameOr G (G.mv k b γ0 mk) h k' y := fun k' y hkk => by
    by_cases hmv : y = none ∧ moved mk k'
    · obtain ⟨rfl, i, j, hm⟩ := hmv
      refine .inr ⟨fun hR => ?_, fun g' o' e => ?_⟩
      · have hne : ((k', none) : Key) ≠ root k := fun e => hkk (congrArg Prod.fst e)
        simp only [Gh.mv, if_neg hne] at hR
        exact hR.1 trivial ⟨i, j, hm⟩
      · obtain ⟨g2, h2⟩ := (hm1 i j k' hm).2.1
        rw [h2] at e; cases e; rfl
    · exact .inl (mv_other hkk fun e hm => hmv ⟨e, hm⟩)
  have x : Ext G h w (G.mv k b γ0 mk) (h.set k (g, .arr s ver' false es')) w' := by
    refine ⟨fun _ y => y, fun x hx => hold x (hr.zb x hx).lt fun e => hbz (e ▸ hx), fun k' gn ob e => ?_⟩
    by_cases hkk : k' = k
    · subst hkk; rw [hh] at e; cases e
      refine ⟨g, _, List.getElem?_set_self hk, Nat.le_refl _, fun _ => ⟨fun sz' v' fr' e' he' => ?_, fun cs' e' => (by cases e'), fun _ _ _ e' => (by cases e')⟩⟩
      cases he'
      refine ⟨ver, false, es, rfl, c4, c5, fun hl => ?_, fun hv i j ns hc => ?_⟩
      · rcases hwhere with ⟨h1, rfl, rfl⟩ | ⟨_, hlt⟩
        · refine ⟨by simp [Gh.mv], by simp [Gh.mv, h1], by simp [Gh.mv], by simp [Gh.mv, srcKey]⟩
        · omega
      · obtain ⟨ns', q1, q2, q3⟩ := c6 hv i j ns hc
        exact ⟨ns', q1, q2, mv_nest q3⟩
    · refine ⟨gn, ob, by rw [List.getElem?_set_ne (Ne.symm hkk)]; exact e, Nat.le_refl _, fun _ => ?_⟩
      by_cases hd : ob = .dead
      · subst hd; exact Keep.dead _ _
      · exact Keep.refl k' ob ((hsame k' none hkk).resolve_right fun y => hd (y.2 gn ob e)) fun i j => mv_other hkk fun e => by cases e
  refine ⟨hr.update k g _ hk x hsame (fun k' y hkk hR => hbsame _ (fun e => hkk (congrArg Prod.fst e)) hR) hsz (fun b' hb' => (hr.zb b' hb').eq (x.zw b' hb')) (fun b hb => .inl hb) (fun _ _ _ _ hn => hn) ?_ (fun e => by cases e) ?_, x⟩
  · intro y hR
    cases y with
    | none =>
      have hβ : (G.mv k b γ0 mk).β (k, none) = b := by simp [Gh.mv]
      rw [hβ]
      refine ⟨hbB, isC.of hnew, fun _ => hbz, fun y' hR' e => ?_, fun k' y' hkk hR' e => ?_⟩
      · cases y' with
        | none => rfl
        | some ij =>
          obtain ⟨i, j⟩ := ij
          exfalso
          have hne : (nest k i j : Key) ≠ root k := fun e => by simp at e
          simp only [Gh.mv, if_neg hne] at hR' e
          refine hbne _ (fun e2 => ?_) hR'.2 e.symm
          cases hmm : mk i j with
          | none => rw [src_none hmm] at e2; exact hne e2
          | some k2 => rw [src_some hmm] at e2; exact (hm1 i j k2 hmm).1 (congrArg Prod.fst e2)
      · have hne : ((k', y') : Key) ≠ root k := fun e => hkk (congrArg Prod.fst e)
        simp only [Gh.mv, if_neg hne, src_other hkk] at hR' e
        exact hbne _ hne hR'.2 e.symm
    | some ij =>
      obtain ⟨i, j⟩ := ij
      have hne : (nest k i j : Key) ≠ root k := fun e => by simp at e
      have hβ : (G.mv k b γ0 mk).β (nest k i j) = G.β (srcKey k mk (nest k i j)) := by simp [Gh.mv]
      simp only [Gh.mv, if_neg hne] at hR
      obtain ⟨_, hR⟩ := hR
      have hsne : srcKey k mk (nest k i j) ≠ root k := fun e2 => by
        cases hmm : mk i j with
        | none => rw [src_none hmm] at e2; exact hne e2
        | some k2 => rw [src_some hmm] at e2; exact (hm1 i j k2 hmm).1 (congrArg Prod.fst e2)
      show B ≤ (G.mv k b γ0 mk).β (nest k i j) ∧ _
      rw [hβ]
      obtain ⟨l1, l2⟩ := hr.lv _ hR
      refine ⟨l1, l2.eq (hbsame _ hsne hR), fun _ => ?_, fun y' hR' e => ?_, fun k' y' hkk hR' e => ?_⟩
      · show ¬ G.Z _
        cases hmm : mk i j with
        | none => rw [src_none hmm] at hR ⊢; exact hr.nz k g _ hh rfl _ hR
        | some k2 => rw [src_some hmm] at hR ⊢; exact (hm1 i j k2 hmm).2.2 hR
      · cases y' with
        | none =>
          exfalso
          have : (G.mv k b γ0 mk).β (k, none) = b := by simp [Gh.mv]
          rw [this] at e
          exact hbne _ hsne hR e
        | some ij' =>
          obtain ⟨i', j'⟩ := ij'
          have hne' : (nest k i' j' : Key) ≠ root k := fun e => by simp at e
          have hβ' : (G.mv k b γ0 mk).β (nest k i' j') = G.β (srcKey k mk (nest k i' j')) := by simp [Gh.mv]
          simp only [Gh.mv, if_neg hne'] at hR'
          have e' := hr.inj _ _ hR hR'.2 (e.trans hβ')
          cases hmm : mk i j with
          | none =>
            rw [src_none hmm] at e'
            cases hmm' : mk i' j' with
            | none => rw [src_none hmm'] at e'; exact congrArg Prod.snd e'
            | some k2 => rw [src_some hmm'] at e'; simp at e'
          | some k2 =>
            rw [src_some hmm] at e'
            cases hmm' : mk i' j' with
            | none => rw [src_none hmm'] at e'; simp at e'
            | some k3 =>
              rw [src_some hmm'] at e'
              have : k2 = k3 := congrArg Prod.fst e'
              subst this
              obtain ⟨rfl, rfl⟩ := hm2 i j i' j' k2 hmm hmm'
              rfl
      · have hne' : ((k', y') : Key) ≠ root k := fun e => hkk (congrArg Prod.fst e)
        simp only [Gh.mv, if_neg hne', src_other hkk] at hR' e
        have e' := hr.inj _ _ hR hR'.2 (by simpa using e)
        cases hmm : mk i j with
        | none => rw [src_none hmm] at e'; exact hkk (congrArg Prod.fst e').symm
        | some k2 =>
          rw [src_some hmm] at e'
          have h1 : k2 = k' := congrArg Prod.fst e'
          have h2 : none = y' := congrArg Prod.snd e'
          subst h1
          exact hR'.1 h2.symm ⟨i, j, hmm⟩
  · unfold ORep
    have hβ : (G.mv k b γ0 mk).β (root k) = b := by simp [Gh.mv]
    have hγ : (G.mv k b γ0 mk).γ (root k) = γ0 := by simp [Gh.mv]
    have hRr : (G.mv k b γ0 mk).R (root k) := by simp [Gh.mv]
    rw [hβ, hγ]
    refine ⟨o1, c2, c3, fun _ => ⟨us', T, hnew, c1, fun i e hie => ?_⟩, fun hn => absurd hRr hn⟩
    obtain ⟨q1, q2⟩ := he i e hie
    refine ⟨q1, fun j c hc => ?_⟩
    obtain ⟨u, q3, q4⟩ := q2 j c hc
    refine ⟨u, q3, ?_⟩
    cases hmm : mk i j with
    | none =>
      rw [hmm] at q4
      exact CRep.ext x (mv_nest hmm) (fun hR => hbsame _ (fun e => by simp at e) hR) q4
    | some k2 =>
      rw [hmm] at q4
      obtain ⟨ns, rfl, q5⟩ := q4
      unfold CRep
      exact q5.ext x (mv_moved hmm) fun hR => hbsame _ (fun e => (hm1 i j k2 hmm).1 (congrArg Prod.fst e)) hR
end
end Go.Proofs.Ytgdcogoacnghkaa.Am
/-
  .. stores.
-/
namespace Go.Proofs.Ytgdcogoacnghkaa.Am
set_option linter.unusedSimpArgs false
set_option linter.unusedVariables false
set_option linter.unusedSectionVars false
open Go.RowKit
section
variable {P : Program} {B : Nat} {Z0 : Nat → Prop} {G G' : Gh} {h h' : Heap} {w w' : World}
/-- the row with the cells vs put in at o -/
def putIn (us : Array Value) (o : Nat) (vs : List Value) : Array Value := (us.toList.take o ++ vs ++ us.toList.drop (o + vs.length)).toArray
theorem putIn_size {us : Array Value} {o : Nat} {vs : List Value} (hl : o + vs.length ≤ us.size) : (putIn us o vs).size = us.size := by
  simp [putIn]; omega
theorem putIn_get {us : Array Value} {o : Nat} {vs : List Value} (hl : o + vs.length ≤ us.size) (t : Nat) : (putIn us o vs)[t]? = if o ≤ t ∧ t < o + vs.length then vs[t - o]? else us[t]? := by
  unfold putIn
  rw [List.getElem?_toArray]
  have h1 : (us.toList.take o).length = o := by simp; omega
  by_cases c1 : t < o
  · rw [if_neg (by omega), List.append_assoc, List.getElem?_append_left (by omega), List.getElem?_take, if_pos c1]; simp
  · rw [List.append_assoc, List.getElem?_append_right (by omega), h1]
    by_cases c2 : t < o + vs.length
    · rw [if_pos (by omega), List.getElem?_append_left (by omega)]
    · rw [if_neg (by omega), List.getElem?_append_right (by omega), List.getElem?_drop]
      rw [show o + vs.length + (t - o - vs.length) = t by omega]; simp
theorem run_store_at {t : TypeId} {sz b o : Nat} {us : Array Value} {T : TypeId} {v : Value} (hs : sizeA P t = some sz) (hv : v.cells.size = sz) (h1 : ∀ u ∈ v.cells.toList, u.oneCell' = true) (hb : w.heap[b]? = some (.cells us T (0, 0))) (hl : o + sz ≤ us.size) :
    (Instr.storeAt t (.pointer (some ⟨b, o, none⟩)) v).run P w = .ok () (w.setRow b (putIn us o v.cells.toList)) := by
  obtain ⟨i, hi, rfl⟩ := sizeA_some hs
  have hst := run_storeCells_at P b o T v.cells.toList 0 us w hb (by simpa [hv] using hl) h1
  simp only [Nat.add_zero] at hst
  simp [Instr.storeAt, Instr.sureAddr, storeVar, sizeOf, typeInfo, hi, hv, hst, putIn]
theorem lrep_cells {R : Value → PV → Prop} {v : Value} {cs : List PV} (hR : ∀ u c, R u c → u.oneCell' = true) (hv : LRep R v.cells cs) : ∀ u ∈ v.cells.toList, u.oneCell' = true := by
  intro u hu
  obtain ⟨i, hi, rfl⟩ := List.getElem_of_mem hu
  have hi' : i < cs.length := by rw [← hv.1]; simpa using hi
  obtain ⟨u, h1, h2⟩ := hv.2 i _ (List.getElem?_eq_getElem hi')
  have : v.cells.toList[i] = u := by
    have h3 : v.cells.toList[i]? = some u := by simpa using h1
    rw [List.getElem?_eq_getElem hi] at h3
    exact Option.some.inj h3
  rw [this]
  exact hR _ _ h2
theorem setRow_map (w : World) (b : Nat) (cs : Array Value) {es : Array MapEntry} {c : Nat} (hb : w.heap[b]? = some (.map es c)) : (w.setRow b cs).heap[b]? = w.heap[b]? := by
  simp [World.setRow, Array.getElem?_modify, hb]
theorem isC.setRow {w : World} {b g : Nat} {cs : Array Value} (h : isC w b) : isC (w.setRow g cs) b := by
  obtain ⟨o, hb, hd⟩ := h
  by_cases e : b = g
  · subst e
    cases o <;> first | (simp [isD] at hd; done) | skip
    case cells us T x => exact isC.of (setRow_heap w b us cs T x hb)
    case map es c => exact ⟨.map es c, by rw [setRow_map w b cs hb]; exact hb, rfl⟩
  · exact ⟨o, (setRow_other w g b cs e).trans hb, hd⟩
/-- a variable is written to -/
theorem var_update (hr : HRep B Z0 G h w) {k g : Nat} {cs cs' : List PV} {us us' : Array Value} {T : TypeId} (hh : h[k]? = some (g, .var cs)) (hb : w.heap[G.β (root k)]? = some (.cells us T (0, 0))) (hu : LRep (fun v c => one c = true ∧ VRep G h w D v c) us' cs') :
    HRep B Z0 G (h.set k (g, .var cs')) (w.setRow (G.β (root k)) us') ∧ Ext G h w G (h.set k (g, .var cs')) (w.setRow (G.β (root k)) us') := by
  have hk : k < h.length := (List.getElem?_eq_some_iff.1 hh).1
  have hob := hr.ob k g _ hh
  unfold ORep at hob
  obtain ⟨hR, _⟩ := hob
  have x : Ext G h w G (h.set k (g, .var cs')) (w.setRow (G.β (root k)) us') := by
    refine ⟨fun _ y => y, fun b hb' => setRow_other w _ _ _ fun e => hr.nz k g _ hh rfl none hR (e ▸ hb'), fun k' gn ob e => ?_⟩
    by_cases hkk : k' = k
    · subst hkk; rw [hh] at e; cases e
      refine ⟨g, .var cs', List.getElem?_set_self hk, Nat.le_refl _, fun _ => ⟨fun _ _ _ _ e' => ?_, fun cs'' e' => ⟨cs, rfl, SameKey.refl _ _⟩, fun _ _ _ e' => (by cases e')⟩⟩
      cases e'
    · exact ⟨gn, ob, by rw [List.getElem?_set_ne (Ne.symm hkk)]; exact e, Nat.le_refl _, fun _ => Keep.refl k' ob (SameKey.refl _ _) fun i j => SameKey.refl _ _⟩
  refine ⟨hr.update k g _ hk x (fun _ _ _ => .inl (SameKey.refl _ _)) (fun k' y hkk hR' => setRow_other w _ _ _ fun e => hkk (congrArg Prod.fst (hr.inj _ _ hR' hR e))) (by simp [World.setRow]) (fun b hb' => (hr.zb b hb').eq (x.zw b hb')) (fun b hb => .inl hb) (fun _ _ _ _ hn => hn) (fun y hR' => ?_) (fun e => by cases e) ?_, x⟩
  · obtain ⟨b1, b2⟩ := hr.lv _ hR'
    exact ⟨b1, b2.setRow, fun _ => hr.nz k g _ hh rfl y hR', fun y' hR2 e => congrArg Prod.snd (hr.inj _ _ hR' hR2 e), fun k' y' hkk hR2 e => hkk (congrArg Prod.fst (hr.inj _ _ hR' hR2 e)).symm⟩
  · unfold ORep
    exact ⟨hR, us', T, setRow_heap w _ us us' T (0, 0) hb, hu.mono fun v c y => ⟨y.1, y.2.ext x⟩⟩
/-- an array that lies in a cell is written to -/
theorem nest_update (hr : HRep B Z0 G h w) {k g s ver i j : Nat} {es es' : List PV} {ns ns' : List PV} {e e' : PV} {us us' : Array Value} {T : TypeId} (hh : h[k]? = some (g, .arr s ver false es)) (he : es[i]? = some e) (hc : (ecells e)[j]? = some (.uslc ns))
    (hR : G.R (nest k i j)) (hb : w.heap[G.β (nest k i j)]? = some (.cells us T (0, 0))) (hes : es' = es.set i e') (hec : ecells e' = (ecells e).set j (.uslc ns')) (hlen : ns'.length = ns.length) (hus : us'.size = us.size)
    (hn : ∀ (m : Nat) x, ns'[m]? = some x → (ecells x).length = G.σ (nest k i j) ∧ ∀ (l : Nat) c, (ecells x)[l]? = some c → one c = true ∧ ∃ v, us'[m * G.σ (nest k i j) + l]? = some v ∧ PR G.Z w v c) :
    HRep B Z0 G (h.set k (g, .arr s ver false es')) (w.setRow (G.β (nest k i j)) us') ∧ Ext G h w G (h.set k (g, .arr s ver false es')) (w.setRow (G.β (nest k i j)) us') := by
  subst hes
  have hk : k < h.length := (List.getElem?_eq_some_iff.1 hh).1
  have hi : i < es.length := (List.getElem?_eq_some_iff.1 he).1
  have hj : j < (ecells e).length := (List.getElem?_eq_some_iff.1 hc).1
  have hcell : ∀ i0 j0, (i0 = i ∧ j0 = j) ∨ cellAt (es.set i e') i0 j0 = cellAt es i0 j0 := fun i0 j0 => by
    by_cases h1 : i0 = i
    · subst h1
      by_cases h2 : j0 = j
      · exact .inl ⟨rfl, h2⟩
      · right; simp only [cellAt, List.getElem?_set_self hi, he, Option.bind_some, hec, List.getElem?_set_ne (Ne.symm h2)]
    · right; simp only [cellAt, List.getElem?_set_ne (Ne.symm h1)]
  have hnew : cellAt (es.set i e') i j = some (.uslc ns') := by simp only [cellAt, List.getElem?_set_self hi, Option.bind_some, hec, List.getElem?_set_self hj]
  have hzn : ¬ G.Z (G.β (nest k i j)) := hr.nz k g _ hh rfl _ hR
  have x : Ext G h w G (h.set k (g, .arr s ver false (es.set i e'))) (w.setRow (G.β (nest k i j)) us') := by
    refine ⟨fun _ y => y, fun b hb' => setRow_other w _ _ _ fun e => hzn (e ▸ hb'), fun k' gn ob e0 => ?_⟩
    by_cases hkk : k' = k
    · subst hkk; rw [hh] at e0; cases e0
      refine ⟨g, _, List.getElem?_set_self hk, Nat.le_refl _, fun _ => ⟨fun sz' v' fr' es' e' => ?_, fun cs' e' => (by cases e'), fun _ _ _ e' => (by cases e')⟩⟩
      cases e'
      refine ⟨ver, false, es, rfl, by simp, Nat.le_refl _, fun _ => SameKey.refl _ _, fun _ i0 j0 ns0 hc0 => ?_⟩
      rcases hcell i0 j0 with ⟨rfl, rfl⟩ | h1
      · have : cellAt es i0 j0 = some (.uslc ns) := cellAt_some he hc
        rw [this] at hc0; cases hc0
        exact ⟨ns', hnew, by omega, SameKey.refl _ _⟩
      · exact ⟨ns0, h1.trans hc0, rfl, SameKey.refl _ _⟩
    · exact ⟨gn, ob, by rw [List.getElem?_set_ne (Ne.symm hkk)]; exact e0, Nat.le_refl _, fun _ => Keep.refl k' ob (SameKey.refl _ _) fun i j => SameKey.refl _ _⟩
  have hbo : ∀ key, key ≠ nest k i j → G.R key → (w.setRow (G.β (nest k i j)) us').heap[G.β key]? = w.heap[G.β key]? := fun key hne hR' => setRow_other w _ _ _ fun e => hne (hr.inj _ _ hR' hR e)
  have hob := hr.ob k g _ hh
  unfold ORep at hob
  obtain ⟨o1, o2, o3, o4, o5⟩ := hob
  refine ⟨hr.update k g _ hk x (fun _ _ _ => .inl (SameKey.refl _ _)) (fun k' y hkk hR' => hbo _ (fun e => hkk (congrArg Prod.fst e)) hR') (by simp [World.setRow]) (fun b hb' => (hr.zb b hb').eq (x.zw b hb')) (fun b hb => .inl hb) (fun _ _ _ _ hn => hn) (fun y hR' => ?_) (fun e => by cases e) ?_, x⟩
  · obtain ⟨b1, b2⟩ := hr.lv _ hR'
    exact ⟨b1, b2.setRow, fun _ => hr.nz k g _ hh rfl y hR', fun y' hR2 e => congrArg Prod.snd (hr.inj _ _ hR' hR2 e), fun k' y' hkk hR2 e => hkk (congrArg Prod.fst (hr.inj _ _ hR' hR2 e)).symm⟩
  · unfold ORep
    refine ⟨o1, by simpa using o2, o3, fun hRr => ?_, fun hn' => ?_⟩
    · obtain ⟨us0, T0, o6, o7, o8⟩ := o4 hRr
      refine ⟨us0, T0, by rw [hbo _ (fun e => by simp at e) hRr]; exact o6, o7, fun i0 e0 he0 => ?_⟩
      have hcr : ∀ j0 c0 u0, cellAt es i0 j0 = some c0 → ¬ (i0 = i ∧ j0 = j) → CRep G h w k i0 j0 u0 c0 → CRep G (h.set k (g, .arr s ver false (es.set i e'))) (w.setRow (G.β (nest k i j)) us') k i0 j0 u0 c0 := fun j0 c0 u0 _ hne hcr =>
        hcr.ext x (SameKey.refl _ _) fun hR' => hbo _ (fun e => hne ⟨by simpa using congrArg (fun q : Key => (q.2.map Prod.fst)) e, by simpa using congrArg (fun q : Key => (q.2.map Prod.snd)) e⟩) hR'
      by_cases h1 : i0 = i
      · subst h1
        rw [List.getElem?_set_self hi] at he0; cases he0
        obtain ⟨o9, o10⟩ := o8 i0 e he
        rw [hec]
        refine ⟨by simpa using o9, fun j0 c0 hc0 => ?_⟩
        by_cases h2 : j0 = j
        · subst h2
          rw [List.getElem?_set_self hj] at hc0; cases hc0
          obtain ⟨u, o11, o12⟩ := o10 j0 _ hc
          refine ⟨u, o11, ?_⟩
          unfold CRep NRep at o12 ⊢
          refine ⟨fun _ => ?_, fun hn' => absurd hR hn'⟩
          obtain ⟨us1, T1, f, c, n1, n2, n3, n4, n5, n6, n7, n8, n9⟩ := o12.1 hR
          rw [hb] at n6; cases n6
          refine ⟨us', T, f, c, by rw [hlen]; exact n1, n2, by rw [hlen]; exact n3, n4, n5, setRow_heap w _ us us' T (0, 0) hb, by rw [hus]; exact n7, n8, fun m y hy => ?_⟩
          obtain ⟨q1, q2⟩ := hn m y hy
          refine ⟨q1, fun l c hc' => ?_⟩
          obtain ⟨q3, v, q4, q5⟩ := q2 l c hc'
          exact ⟨q3, v, q4, q5.mono x.zz x.zw⟩
        · rw [List.getElem?_set_ne (Ne.symm h2)] at hc0
          obtain ⟨u, o11, o12⟩ := o10 j0 c0 hc0
          exact ⟨u, o11, hcr j0 c0 u (cellAt_some he hc0) (fun e => h2 e.2) o12⟩
      · rw [List.getElem?_set_ne (Ne.symm h1)] at he0
        obtain ⟨o9, o10⟩ := o8 i0 e0 he0
        refine ⟨o9, fun j0 c0 hc0 => ?_⟩
        obtain ⟨u, o11, o12⟩ := o10 j0 c0 hc0
        exact ⟨u, o11, hcr j0 c0 u (cellAt_some he0 hc0) (fun e => h1 e.1) o12⟩
    · have := o5 hn'
      subst this
      simp at hi
theorem ecells_setE {e : PV} {j : Nat} {ds : List PV} (hl : j + ds.length ≤ (ecells e).length) (h0 : ds ≠ []) (hd : ∀ d, ds = [d] → ecells e = [e] → ecells d = [d]) : ecells (setE e j ds) = setAll (ecells e) j ds := by
  cases e
  case agg => rfl
  all_goals
    simp only [ecells, List.length_cons, List.length_nil] at hl
    match ds, h0, hl, hd with
    | [d], _, hl, hd =>
      simp at hl
      subst hl
      rw [show setE _ 0 [d] = d from rfl, hd d rfl rfl]; rfl
    | d :: d' :: ds, _, hl, _ => simp only [List.length_cons] at hl; omega
theorem ecell_match {m : Option Nat} {u : Value} {d : PV} {k i j : Nat} (hc : ECell G h w m u d) : CellOr G h w k i j m u d := by
  cases m with
  | none => obtain ⟨q1, q2⟩ := hc; cases d <;> first | (simp [one] at q1; done) | (unfold CellOr CRep; exact ⟨q1, q2⟩)
  | some k2 => exact hc
theorem below_row {g : Nat} {w0 w : World} (hb : Bl B w0 w) (hBg : B ≤ g) (cs : Array Value) {us : Array Value} {T : TypeId} {x : Nat × Nat} (hc : w.heap[g]? = some (.cells us T x)) : Bl B w0 (w.setRow g cs) :=
  hb.trans ⟨⟨rfl, rfl, rfl, by simp [World.setRow], fun k hk => setRow_other w g k cs (by omega)⟩, fun k o h1 h2 => by
    by_cases hk : k = g
    · subst hk; rw [hc] at h1; cases h1; cases h2
    · rw [setRow_other w g k cs hk]; exact h1⟩
/-- a store -/
theorem snd_storeP (hr : HRep B Z0 G h w) {hide : List Nat} {t : TypeId} {sz : Nat} {a v : Value} {pa pv : PV} {ws : List (Nat × Row)} (hs : sizeA P t = some sz) (h0 : sz ≠ 0) (ha : VRep G h w D a pa) (hv : VRep G h w D v pv)
    (hk : storeP (lkOf h hide) sz pa pv = some ws) : Good P B Z0 G h w (do Instr.storeAt t a v; pure .skip) .undef ws := by
  unfold storeP at hk
  split at hk
  case isFalse => cases hk
  rename_i hsz
  cases pa <;> (try (simp at hk; done)) <;> simp only [] at hk
  case ptr k g o =>
    split at hk
    · rename_i g' cs hlk
      split at hk
      · rename_i hc
        obtain ⟨rfl, hle, hone⟩ := hc
        simp only [Option.some.injEq] at hk
        subst hk
        have hh := lk_some hlk (by simp)
        unfold D at ha; unfold VRep at ha
        obtain ⟨b, rfl, gn, ob, h1, h2, h3⟩ := ha
        rw [hh] at h1; cases h1
        obtain rfl := h3 rfl cs rfl
        have hob := hr.ob k _ _ hh
        unfold ORep at hob
        obtain ⟨hR, us, T, h4, h5⟩ := hob
        have hvc := vcells hv hone
        have hvs : v.cells.size = sz := by rw [hvc.1, hsz]
        have hfit : o + v.cells.toList.length ≤ us.size := by rw [h5.1]; simpa [hvs] using hle
        have hrun := run_store_at (P := P) hs hvs (lrep_cells (fun u c y => oneCell_of y.1 y.2) hvc) h4 (by rw [h5.1]; exact hle)
        obtain ⟨t1, t2⟩ := setAll_spec (ecells pv) cs o (by rw [hsz]; exact hle)
        have hnew : LRep (fun v c => one c = true ∧ VRep G h w D v c) (putIn us o v.cells.toList) (setAll cs o (ecells pv)) := by
          refine ⟨by rw [putIn_size hfit, t1, h5.1], fun i c hc => ?_⟩
          rw [t2] at hc
          rw [putIn_get hfit]
          have hlen : v.cells.toList.length = (ecells pv).length := by simp [hvc.1]
          rw [hlen]
          split at hc
          · rename_i hr'; rw [if_pos hr']
            obtain ⟨u, g1, g2⟩ := hvc.2 _ c hc
            exact ⟨u, by simpa using g1, g2⟩
          · rename_i hr'; rw [if_neg hr']
            exact h5.2 i c hc
        obtain ⟨x1, x2⟩ := var_update hr hh h4 hnew
        exact ⟨_, undef, _, G, by simp [hrun], .inr ⟨rfl, rfl⟩, x1, x2, mk_undef, below_row (Bl.refl _ _) (hr.lv _ hR).1 _ (by assumption)⟩
      · cases hk
    · cases hk
  case eptr k g gl s i j =>
    split at hk
    · rename_i g' s' ver fr es hlk
      split at hk
      · rename_i hc
        obtain ⟨rfl, hgl, rfl, rfl⟩ := hc
        split at hk
        · rename_i e he
          split at hk
          · rename_i hle
            split at hk
            · rename_i ds ks hemb
              split at hk
              · cases hk
              · rename_i hkk
                have hkk : k ∉ ks := by simpa using hkk
                simp only [Option.some.injEq] at hk
                subst hk
                have hh := lk_some hlk (by simp)
                unfold D at ha; unfold VRep at ha
                obtain ⟨b, f, rfl, gn, ob, h1, h2, h3⟩ := ha
                rw [hh] at h1; cases h1
                obtain ⟨_, h3⟩ := h3 rfl _ _ _ _ rfl
                obtain ⟨rfl, h4, hil⟩ := h3 hgl
                have hf := h4 rfl
                subst hf
                have hone : (ecells pv).all one = true := by
                  refine List.all_eq_true.2 fun c hc => ?_
                  have : ∀ {cs : List PV} {ds : List PV} {ks : List Nat}, embCs (lkOf h hide) cs = some (ds, ks) → ∀ c ∈ cs, one c = true := by
                    intro cs
                    induction cs with
                    | nil => intro _ _ _ c hc; simp at hc
                    | cons c0 cs ih =>
                      intro ds ks hk c hc
                      simp only [embCs] at hk
                      split at hk
                      · rename_i hc0 hcs0
                        rcases List.mem_cons.1 hc with rfl | hc
                        · cases c <;> first | rfl | (simp [embC] at hc0)
                        · exact ih hcs0 c hc
                      · cases hk
                  exact this hemb c hc
                have hvc := vcells hv hone
                have hvs : v.cells.size = sz := by rw [hvc.1, hsz]
                obtain ⟨G1, mk, e1, e2, e3, e4, e5, e6, e7⟩ := embCs_spec (val := fun t => (v.cells[t]?).getD undef) hr (fun _ _ => rfl) (fun _ _ _ _ _ _ => rfl) (fun t c hc => by
                  obtain ⟨u, q1, q2, q3⟩ := hvc.2 t c hc
                  rw [q1]; exact ⟨q2, q3⟩) hemb
                have hh1 := (e3.other k hkk).trans hh
                obtain ⟨hR, us, T, h5, h6, h7, h8⟩ := ob_at e1 hh1 he
                have hβ : G1.β (root k) = G.β (root k) := by rw [e3.β]
                rw [hβ] at h5
                have hroom : i * s' + j + v.cells.toList.length ≤ us.size := by
                  have hob := e1.ob k _ _ hh1
                  unfold ORep at hob
                  rw [h6]
                  have : (i + 1) * s' ≤ G1.γ (root k) * s' := Nat.mul_le_mul_right _ (by omega)
                  rw [Nat.add_mul] at this
                  simp [hvs]; omega
                have hrun := run_store_at (P := P) (o := i * s' + j) hs hvs (lrep_cells (fun u c y => oneCell_of y.1 y.2) hvc) h5 (by simpa [hvs] using hroom)
                have hdl : ds.length = sz := by rw [e4, hsz]
                have hi : i < es.length := by omega
                have hse : ecells (setE e j ds) = setAll (ecells e) j ds := ecells_setE (by rw [hdl]; exact hle) (fun e0 => by rw [e0] at hdl; exact h0 hdl.symm) fun d hd _ => ecell_single (e5 0 d (by rw [hd]; rfl))
                obtain ⟨t1, t2⟩ := setAll_spec ds (ecells e) j (by rw [hdl]; exact hle)
                obtain ⟨x1, x2⟩ := dest_update (w' := w.setRow (G.β (root k)) (putIn us (i * s' + j) v.cells.toList)) (ver' := if (((ecells e).drop j).take sz).any isU || ds.any isU then ver + 1 else ver) (es' := es.set i (setE e j ds)) (γ0 := G1.γ (root k)) (b := G.β (root k))
                  (mk := fun a b => if a = i ∧ j ≤ b then mk (b - j) else none) e1 hh1 (.inl ⟨hR, hβ.symm, rfl⟩) (setRow_heap w _ us _ T (0, 0) h5) (fun x _ hx => setRow_other w _ _ _ hx) (by simp)
                  (fun a b k2 hm => by
                    try dsimp only at hm
                    split at hm
                    · obtain ⟨q1, q2⟩ := e6 _ _ hm
                      exact ⟨fun e => hkk (e ▸ q1), e3.dead k2 q1, fun hR2 => killed_nz hr e3 q1 (by rw [e3.R] at hR2; exact hR2)⟩
                    · cases hm)
                  (fun a b a' b' k2 hm hm' => by
                    try dsimp only at hm hm'
                    split at hm
                    · split at hm'
                      · rename_i q1 q2
                        have := e7 _ _ _ hm hm'
                        exact ⟨by omega, by omega⟩
                      · cases hm'
                    · cases hm)
                  (by rw [putIn_size hroom]; exact h6) (by
                    have hob := e1.ob k _ _ hh1
                    unfold ORep at hob
                    simpa using hob.2.1) (by
                    have hob := e1.ob k _ _ hh1
                    unfold ORep at hob
                    exact hob.2.2.1) (by simp) (by split <;> omega) (fun hver a b ns hcab => by
                    split at hver
                    · omega
                    · rename_i hU
                      simp only [Bool.or_eq_true, not_or] at hU
                      obtain ⟨u1, u2⟩ := hU
                      by_cases hai : a = i
                      · subst hai
                        simp only [cellAt, he, Option.bind_some] at hcab
                        by_cases hbj : j ≤ b ∧ b < j + ds.length
                        · exfalso
                          apply u1
                          refine List.any_eq_true.2 ⟨.uslc ns, List.mem_of_getElem? (i := b - j) ?_, rfl⟩
                          rw [List.getElem?_take, if_pos (by omega), List.getElem?_drop, show j + (b - j) = b by omega]; exact hcab
                        · refine ⟨ns, ?_, rfl, ?_⟩
                          · simp only [cellAt, List.getElem?_set_self hi, Option.bind_some, hse, t2, if_neg hbj]; exact hcab
                          · split
                            · rename_i q
                              cases hmm : mk (b - j) with
                              | none => rfl
                              | some k2 => exfalso; have := (e6 _ _ hmm).2; omega
                            · rfl
                      · exact ⟨ns, by simp only [cellAt, List.getElem?_set_ne (Ne.symm hai)]; exact hcab, rfl, by simp [hai]⟩)
                  (fun a ea hea => by
                    have hob := e1.ob k _ _ hh1
                    by_cases hai : a = i
                    · subst hai
                      rw [List.getElem?_set_self hi] at hea; cases hea
                      rw [hse]
                      refine ⟨by rw [t1, h7], fun b c hc => ?_⟩
                      rw [t2] at hc
                      rw [putIn_get hroom]
                      have hvl : v.cells.toList.length = ds.length := by rw [hdl]; simpa using hvs
                      rw [hvl]
                      split at hc
                      · rename_i hr'
                        rw [if_pos (by omega)]
                        have hec := e5 _ _ hc
                        have hlt : b - j < v.cells.size := by rw [hvs, ← hdl]; omega
                        refine ⟨v.cells[b - j], by rw [show a * s' + b - (a * s' + j) = b - j by omega]; simp [hlt], ?_⟩
                        rw [show ((v.cells[b - j]?).getD undef) = v.cells[b - j] by simp [hlt]] at hec
                        have hmk : (if a = a ∧ j ≤ b then mk (b - j) else none) = mk (b - j) := if_pos ⟨rfl, hr'.1⟩
                        try dsimp only
                        rw [hmk]
                        exact ecell_match hec
                      · rename_i hr'
                        rw [if_neg (by omega)]
                        obtain ⟨u, q1, q2⟩ := h8 b c hc
                        refine ⟨u, q1, ?_⟩
                        have : (if a = a ∧ j ≤ b then mk (b - j) else none) = none := by
                          split
                          · cases hmm : mk (b - j) with
                            | none => rfl
                            | some k2 => exfalso; have := (e6 _ _ hmm).2; omega
                          · rfl
                        try dsimp only
                        rw [this]; exact q2
                    · rw [List.getElem?_set_ne (Ne.symm hai)] at hea
                      obtain ⟨_, us2, T2, p1, p2, p3, p4⟩ := ob_at e1 hh1 hea
                      rw [hβ, h5] at p1; cases p1
                      refine ⟨p3, fun b c hc => ?_⟩
                      obtain ⟨u, q1, q2⟩ := p4 b c hc
                      have hz : (if a = i ∧ j ≤ b then mk (b - j) else none) = none := if_neg fun q => hai q.1
                      refine ⟨u, ?_, by try dsimp only
                                        rw [hz]; exact q2⟩
                      rw [putIn_get hroom, if_neg ?_]
                      · exact q1
                      · have hvl : v.cells.toList.length = sz := by simpa using hvs
                        have hbs : b < s' := by rw [← p3]; exact (List.getElem?_eq_some_iff.1 hc).1
                        rintro ⟨z1, z2⟩
                        rcases Nat.lt_or_gt_of_ne hai with hlt | hlt
                        · have : (a + 1) * s' ≤ i * s' := Nat.mul_le_mul_right _ (by omega)
                          rw [Nat.add_mul] at this; omega
                        · have : (i + 1) * s' ≤ a * s' := Nat.mul_le_mul_right _ (by omega)
                          rw [Nat.add_mul] at this; omega)
                refine ⟨.skip, undef, w.setRow (G.β (root k)) (putIn us (i * s' + j) v.cells.toList), G1.mv k (G.β (root k)) (G1.γ (root k)) (fun a b => if a = i ∧ j ≤ b then mk (b - j) else none), by simp [hrun], .inr ⟨rfl, rfl⟩, ?_, ?_, mk_undef, below_row (Bl.refl _ _) (hr.lv _ (by rw [e3.R] at hR; exact hR)).1 _ (by assumption)⟩
                · rw [upd_append]; exact x1
                · rw [upd_append]; exact e2.trans x2
            · cases hk
          · cases hk
        · cases hk
      · cases hk
    · cases hk
  case nptr k g ver s i j m l =>
    split at hk
    · rename_i g' s0 ver' fr es hlk
      split at hk
      · rename_i hc
        obtain ⟨rfl, rfl, rfl⟩ := hc
        split at hk
        · rename_i e he
          split at hk
          · rename_i ns hns
            split at hk
            · rename_i x hx
              split at hk
              · rename_i hc2
                obtain ⟨hxs, hle, hpure⟩ := hc2
                simp only [Option.some.injEq] at hk
                subst hk
                have hh := lk_some hlk (by simp)
                unfold D at ha; unfold VRep at ha
                obtain ⟨b, f, rfl, gn, ob, h1, h2, h3⟩ := ha
                rw [hh] at h1; cases h1
                obtain ⟨_, h3⟩ := h3 rfl _ _ _ _ rfl
                obtain ⟨ns', hns', rfl, h4, hml⟩ := h3 rfl
                rw [cellAt_some he hns] at hns'; cases hns'
                obtain ⟨hR, us, T, h5, h6, h7, h8⟩ := ob_at hr hh he
                obtain ⟨u0, h9, h10⟩ := h8 j _ hns
                unfold CRep NRep at h10
                have hRn : G.R (nest k i j) := by
                  refine Classical.byContradiction fun hc => ?_
                  obtain ⟨_, rfl⟩ := h10.2 hc
                  simp at hx
                obtain ⟨us2, T2, ff, cc, rfl, h10', h11, h12, h12', h13, h14, h15, h16⟩ := h10.1 hRn
                obtain ⟨h17, h18⟩ := h16 m x hx
                have hσ : G.σ (nest k i j) = s := by rw [← h17, hxs]
                have hf := h4 hσ
                subst hf
                have hone : (ecells pv).all one = true := List.all_eq_true.2 fun c hc => pure_one (List.all_eq_true.1 hpure c hc)
                have hvc := vcells hv hone
                have hvs : v.cells.size = sz := by rw [hvc.1, hsz]
                have hm : m < ns.length := (List.getElem?_eq_some_iff.1 hx).1
                have hroom : m * s + l + v.cells.toList.length ≤ us2.size := by
                  rw [h14, hσ]
                  have : (m + 1) * s ≤ G.γ (nest k i j) * s := Nat.mul_le_mul_right _ (by omega)
                  rw [Nat.add_mul] at this
                  simp [hvs]; omega
                have hrun := run_store_at (P := P) (o := m * s + l) hs hvs (lrep_cells (fun u c y => oneCell_of y.1 y.2) hvc) h13 (by simpa [hvs] using hroom)
                obtain ⟨t1, t2⟩ := setAll_spec (ecells pv) (ecells x) l (by rw [hsz, hxs]; exact hle)
                have hse : ecells (setE x l (ecells pv)) = setAll (ecells x) l (ecells pv) := ecells_setE (by rw [hsz, hxs]; exact hle) (fun e0 => by rw [e0] at hsz; exact h0 hsz.symm) fun d hd _ => by
                  have : d ∈ ecells pv := by rw [hd]; simp
                  have := List.all_eq_true.1 hpure d this
                  cases d <;> first | rfl | (simp [pureC] at this)
                have hse2 : ecells (setE e j [.uslc (ns.set m (setE x l (ecells pv)))]) = (ecells e).set j (.uslc (ns.set m (setE x l (ecells pv)))) := by
                  have hj := (List.getElem?_eq_some_iff.1 hns).1
                  rw [ecells_setE (by simp; omega) (by simp) (fun d hd _ => by simp at hd; subst hd; rfl)]; rfl
                obtain ⟨x1, x2⟩ := nest_update (us' := putIn us2 (m * s + l) v.cells.toList) hr hh he hns hRn h13 rfl hse2 (by simp) (putIn_size hroom) (fun a y hy => by
                  rw [hσ]
                  by_cases ham : a = m
                  · subst ham
                    rw [List.getElem?_set_self hm] at hy; cases hy
                    rw [hse]
                    refine ⟨by rw [t1, hxs], fun t c hc => ?_⟩
                    rw [t2] at hc
                    rw [putIn_get hroom]
                    have hvl : v.cells.toList.length = (ecells pv).length := by rw [hsz]; simpa using hvs
                    rw [hvl]
                    split at hc
                    · rename_i hr'
                      rw [if_pos (by omega)]
                      obtain ⟨u, q1, q2, q3⟩ := hvc.2 _ c hc
                      exact ⟨q2, u, by rw [show a * s + t - (a * s + l) = t - l by omega]; simpa using q1, vrep_pure (List.all_eq_true.1 hpure c (List.mem_of_getElem? hc)) q3⟩
                    · rename_i hr'
                      rw [if_neg (by omega)]
                      obtain ⟨q1, u, q2, q3⟩ := h18 t c hc
                      exact ⟨q1, u, by rw [← hσ]; exact q2, q3⟩
                  · rw [List.getElem?_set_ne (Ne.symm ham)] at hy
                    obtain ⟨p1, p2⟩ := h16 a y hy
                    refine ⟨by rw [p1, hσ], fun t c hc => ?_⟩
                    obtain ⟨q1, u, q2, q3⟩ := p2 t c hc
                    refine ⟨q1, u, ?_, q3⟩
                    rw [putIn_get hroom, if_neg ?_, ← hσ]
                    · exact q2
                    · have hvl : v.cells.toList.length = sz := by simpa using hvs
                      have hbs : t < s := by rw [← hσ, ← p1]; exact (List.getElem?_eq_some_iff.1 hc).1
                      rintro ⟨z1, z2⟩
                      rcases Nat.lt_or_gt_of_ne ham with hlt | hlt
                      · have : (a + 1) * s ≤ m * s := Nat.mul_le_mul_right _ (by omega)
                        rw [Nat.add_mul] at this; omega
                      · have : (m + 1) * s ≤ a * s := Nat.mul_le_mul_right _ (by omega)
                        rw [Nat.add_mul] at this; omega)
                exact ⟨.skip, undef, _, G, by simp [hrun], .inr ⟨rfl, rfl⟩, x1, x2, mk_undef, below_row (Bl.refl _ _) (hr.lv _ hRn).1 _ (by assumption)⟩
              · cases hk
            · cases hk
          · cases hk
        · cases hk
      · cases hk
    · cases hk
end
end Go.Proofs.Ytgdcogoacnghkaa.Am
/-
  .. what is appended.
-/
namespace Go.Proofs.Ytgdcogoacnghkaa.Am
set_option linter.unusedSimpArgs false
set_option linter.unusedVariables false
set_option linter.unusedSectionVars false
open Go.RowKit
section
variable {P : Program} {B : Nat} {Z0 : Nat → Prop} {G G' : Gh} {h h' : Heap} {w w' : World}
/-- an object is given up as a whole -/
theorem kill_simple (hr : HRep B Z0 G h w) {k g : Nat} {ob : Ob} (hh : h[k]? = some (g, ob)) : HRep B Z0 G (h.set k (g, .dead)) w ∧ Ext G h w G (h.set k (g, .dead)) w := by
  have hk : k < h.length := (List.getElem?_eq_some_iff.1 hh).1
  have x : Ext G h w G (h.set k (g, .dead)) w := by
    refine ⟨fun _ y => y, fun _ _ => rfl, fun k' gn o e => ?_⟩
    by_cases hkk : k' = k
    · subst hkk; rw [hh] at e; cases e
      exact ⟨g, .dead, List.getElem?_set_self hk, Nat.le_refl _, fun _ => Keep.dead _ _⟩
    · exact ⟨gn, o, by rw [List.getElem?_set_ne (Ne.symm hkk)]; exact e, Nat.le_refl _, fun _ => Keep.refl k' o (SameKey.refl _ _) fun i j => SameKey.refl _ _⟩
  refine ⟨hr.update k g .dead hk x (fun _ _ _ => .inl (SameKey.refl _ _)) (fun _ _ _ _ => rfl) (Nat.le_refl _) hr.zb (fun b hb => .inl hb) (fun _ _ _ _ hn => hn) (fun y hR => ?_) (fun e => by cases e) trivial, x⟩
  obtain ⟨b1, b2⟩ := hr.lv _ hR
  exact ⟨b1, b2, fun e => absurd e (by simp [liveOb]), fun y' hR2 e => congrArg Prod.snd (hr.inj _ _ hR hR2 e), fun k' y' hkk hR2 e => hkk (congrArg Prod.fst (hr.inj _ _ hR hR2 e)).symm⟩
def Gh.frz2 (G : Gh) (k : Nat) : Gh := { G with Z := fun b => G.Z b ∨ ∃ ij, G.R (k, some ij) ∧ b = G.β (k, some ij), R := fun key => (key.1 = k → key.2 = none) ∧ G.R key }
/-- the arrays that lie in the elements of an array are frozen -/
theorem frz_obj (hr : HRep B Z0 G h w) {k g s ver : Nat} {fr : Bool} {es : List PV} (hh : h[k]? = some (g, .arr s ver fr es)) (hp : es.all noRefE = true) :
    HRep B Z0 (G.frz2 k) (h.set k (g, .arr s (ver + 1) fr (es.map frzE))) w ∧ Ext G h w (G.frz2 k) (h.set k (g, .arr s (ver + 1) fr (es.map frzE))) w := by
  have hk : k < h.length := (List.getElem?_eq_some_iff.1 hh).1
  have hsame : ∀ k' y, k' ≠ k → SameKey G (G.frz2 k) (k', y) := fun k' y hkk => ⟨rfl, ⟨fun x => x.2, fun x => ⟨fun e => absurd e hkk, x⟩⟩, rfl, rfl⟩
  have hroot : SameKey G (G.frz2 k) (root k) := ⟨rfl, ⟨fun x => x.2, fun x => ⟨fun _ => rfl, x⟩⟩, rfl, rfl⟩
  have hob := hr.ob k g _ hh
  unfold ORep at hob
  obtain ⟨o1, o2, o3, o4, o5⟩ := hob
  have x : Ext G h w (G.frz2 k) (h.set k (g, .arr s (ver + 1) fr (es.map frzE))) w := by
    refine ⟨fun _ y => .inl y, fun _ _ => rfl, fun k' gn ob e => ?_⟩
    by_cases hkk : k' = k
    · subst hkk; rw [hh] at e; cases e
      refine ⟨g, _, List.getElem?_set_self hk, Nat.le_refl _, fun _ => ⟨fun sz' v' fr' es' e' => ?_, fun cs' e' => (by cases e'), fun _ _ _ e' => (by cases e')⟩⟩
      cases e'
      exact ⟨ver, fr, es, rfl, by simp, by omega, fun _ => hroot, fun e => by omega⟩
    · exact ⟨gn, ob, by rw [List.getElem?_set_ne (Ne.symm hkk)]; exact e, Nat.le_refl _, fun _ => Keep.refl k' ob (hsame _ _ hkk) fun i j => hsame _ _ hkk⟩
  refine ⟨hr.update k g _ hk x (fun k' y hkk => .inl (hsame k' y hkk)) (fun _ _ _ _ => rfl) (Nat.le_refl _) ?_ (fun b hb => hb.imp id fun ⟨ij, h1, h2⟩ => h2 ▸ (hr.lv _ h1).1) ?_ ?_ ?_ ?_, x⟩
  · rintro b (hb | ⟨ij, hR, rfl⟩)
    · exact hr.zb b hb
    · exact (hr.lv _ hR).2
  · rintro k' y hkk hR hn (hb | ⟨ij, hR2, he⟩)
    · exact hn hb
    · exact hkk (congrArg Prod.fst (hr.inj _ _ hR hR2 he))
  · intro y hR
    obtain ⟨b1, b2⟩ := hr.lv (k, y) hR.2
    have hy : y = none := hR.1 rfl
    subst hy
    refine ⟨b1, b2, fun hl => ?_, fun y' hR' he => congrArg Prod.snd (hr.inj _ _ hR.2 hR'.2 he), fun k' y' hkk hR' he => hkk (congrArg Prod.fst (hr.inj _ _ hR.2 hR'.2 he)).symm⟩
    rintro (hb | ⟨ij, hR2, he⟩)
    · exact hr.nz k g _ hh hl none hR.2 hb
    · have := hr.inj _ _ hR.2 hR2 he
      simp at this
  · intro hfo y hR
    exact .inl (hr.fz k g _ hh hfo y hR.2)
  · unfold ORep
    refine ⟨o1, by rw [List.length_map]; exact o2, o3, fun hR => ?_, fun hn => by rw [o5 fun y => hn ⟨fun _ => rfl, y⟩]; rfl⟩
    obtain ⟨us, T, o6, o7, o8⟩ := o4 hR.2
    refine ⟨us, T, o6, o7, fun i e he => ?_⟩
    rw [List.getElem?_map] at he
    obtain ⟨e0, he0, rfl⟩ := Option.map_eq_some_iff.1 he
    obtain ⟨o9, o10⟩ := o8 i e0 he0
    rw [ecells_frz]
    refine ⟨by simpa using o9, fun j c hc => ?_⟩
    rw [List.getElem?_map] at hc
    obtain ⟨c0, hc0, rfl⟩ := Option.map_eq_some_iff.1 hc
    obtain ⟨u, o11, o12⟩ := o10 j c0 hc0
    have hnr : (pureC c0 || isU c0) = true := List.all_eq_true.1 (show (ecells e0).all (fun c => pureC c || isU c) = true from List.all_eq_true.1 hp e0 (List.mem_of_getElem? he0)) c0 (List.mem_of_getElem? hc0)
    obtain ⟨o13, o14⟩ := crep_frz (Z' := (G.frz2 k).Z) (fun b hb => .inl hb) (fun hR' => .inr ⟨(i, j), hR', rfl⟩) hnr o12
    refine ⟨u, o11, ?_⟩
    have hv := prep_vrep (G := G.frz2 k) (h := h.set k (g, .arr s (ver + 1) fr (es.map frzE))) o13 o14
    revert o13 hv
    cases frzC c0 <;> intro o13 hv <;> first | (simp [one] at o13; done) | (unfold CRep; exact ⟨o13, hv⟩)
def Gh.frz3 (G : Gh) (k : Nat) : Gh := { G with Z := fun b => G.Z b ∨ ∃ y, G.R (k, y) ∧ b = G.β (k, y), R := fun key => (key.1 = k → key.2 = none) ∧ G.R key }
/-- an array is frozen, and those in its elements -/
theorem frz_whole (hr : HRep B Z0 G h w) {k g s ver : Nat} {fr : Bool} {es : List PV} (hh : h[k]? = some (g, .arr s ver fr es)) (hp : es.all noRefE = true) :
    HRep B Z0 (G.frz3 k) (h.set k (g, .arr s (ver + 1) true (es.map frzE))) w ∧ Ext G h w (G.frz3 k) (h.set k (g, .arr s (ver + 1) true (es.map frzE))) w := by
  have hk : k < h.length := (List.getElem?_eq_some_iff.1 hh).1
  have hsame : ∀ k' y, k' ≠ k → SameKey G (G.frz3 k) (k', y) := fun k' y hkk => ⟨rfl, ⟨fun x => x.2, fun x => ⟨fun e => absurd e hkk, x⟩⟩, rfl, rfl⟩
  have hroot : SameKey G (G.frz3 k) (root k) := ⟨rfl, ⟨fun x => x.2, fun x => ⟨fun _ => rfl, x⟩⟩, rfl, rfl⟩
  have hob := hr.ob k g _ hh
  unfold ORep at hob
  obtain ⟨o1, o2, o3, o4, o5⟩ := hob
  have x : Ext G h w (G.frz3 k) (h.set k (g, .arr s (ver + 1) true (es.map frzE))) w := by
    refine ⟨fun _ y => .inl y, fun _ _ => rfl, fun k' gn ob e => ?_⟩
    by_cases hkk : k' = k
    · subst hkk; rw [hh] at e; cases e
      refine ⟨g, _, List.getElem?_set_self hk, Nat.le_refl _, fun _ => ⟨fun sz' v' fr' es' e' => ?_, fun cs' e' => (by cases e'), fun _ _ _ e' => (by cases e')⟩⟩
      cases e'
      exact ⟨ver, fr, es, rfl, by simp, by omega, fun _ => hroot, fun e => by omega⟩
    · exact ⟨gn, ob, by rw [List.getElem?_set_ne (Ne.symm hkk)]; exact e, Nat.le_refl _, fun _ => Keep.refl k' ob (hsame _ _ hkk) fun i j => hsame _ _ hkk⟩
  refine ⟨hr.update k g _ hk x (fun k' y hkk => .inl (hsame k' y hkk)) (fun _ _ _ _ => rfl) (Nat.le_refl _) ?_ (fun b hb => hb.imp id fun ⟨ij, h1, h2⟩ => h2 ▸ (hr.lv _ h1).1) ?_ ?_ ?_ ?_, x⟩
  · rintro b (hb | ⟨ij, hR, rfl⟩)
    · exact hr.zb b hb
    · exact (hr.lv _ hR).2
  · rintro k' y hkk hR hn (hb | ⟨ij, hR2, he⟩)
    · exact hn hb
    · exact hkk (congrArg Prod.fst (hr.inj _ _ hR hR2 he))
  · intro y hR
    obtain ⟨b1, b2⟩ := hr.lv (k, y) hR.2
    have hy : y = none := hR.1 rfl
    subst hy
    exact ⟨b1, b2, fun hl => by (simp [liveOb] at hl), fun y' hR' he => congrArg Prod.snd (hr.inj _ _ hR.2 hR'.2 he), fun k' y' hkk hR' he => hkk (congrArg Prod.fst (hr.inj _ _ hR.2 hR'.2 he)).symm⟩
  · intro hfo y hR
    exact .inr ⟨y, hR.2, rfl⟩
  · unfold ORep
    refine ⟨o1, by rw [List.length_map]; exact o2, o3, fun hR => ?_, fun hn => by rw [o5 fun y => hn ⟨fun _ => rfl, y⟩]; rfl⟩
    obtain ⟨us, T, o6, o7, o8⟩ := o4 hR.2
    refine ⟨us, T, o6, o7, fun i e he => ?_⟩
    rw [List.getElem?_map] at he
    obtain ⟨e0, he0, rfl⟩ := Option.map_eq_some_iff.1 he
    obtain ⟨o9, o10⟩ := o8 i e0 he0
    rw [ecells_frz]
    refine ⟨by simpa using o9, fun j c hc => ?_⟩
    rw [List.getElem?_map] at hc
    obtain ⟨c0, hc0, rfl⟩ := Option.map_eq_some_iff.1 hc
    obtain ⟨u, o11, o12⟩ := o10 j c0 hc0
    have hnr : (pureC c0 || isU c0) = true := List.all_eq_true.1 (show (ecells e0).all (fun c => pureC c || isU c) = true from List.all_eq_true.1 hp e0 (List.mem_of_getElem? he0)) c0 (List.mem_of_getElem? hc0)
    obtain ⟨o13, o14⟩ := crep_frz (Z' := (G.frz3 k).Z) (fun b hb => .inl hb) (fun hR' => .inr ⟨some (i, j), hR', rfl⟩) hnr o12
    refine ⟨u, o11, ?_⟩
    have hv := prep_vrep (G := G.frz3 k) (h := h.set k (g, .arr s (ver + 1) true (es.map frzE))) o13 o14
    revert o13 hv
    cases frzC c0 <;> intro o13 hv <;> first | (simp [one] at o13; done) | (unfold CRep; exact ⟨o13, hv⟩)
/-- what is appended, as it lies: n elements, the q-th cell V q; mk: the arrays that move -/
structure Src (G : Gh) (h : Heap) (w : World) (vx : Value) (sz : Nat) (news : List PV) (V : Nat → Value) (mk : Nat → Nat → Option Nat) : Prop where
  shape : ∃ a c, vx = .slice a news.length c ∧ (news.length = 0 ∨ ∃ b f, a = some ⟨b, f, none⟩ ∧ ∀ q, q < news.length * sz → w.cell? ⟨b, f + q, none⟩ = some (V q))
  cells : ∀ (i : Nat) d, news[i]? = some d → (ecells d).length = sz ∧ ∀ (t : Nat) c, (ecells d)[t]? = some c → ECell G h w (mk i t) (V (i * sz + t)) c
theorem div_lt {q n sz : Nat} (hq : q < n * sz) : q / sz < n := by
  rcases Nat.eq_zero_or_pos sz with rfl | h0
  · omega
  · exact (Nat.div_lt_iff_lt_mul h0).2 hq
/-- from a row of cells -/
theorem src_of {vx : Value} {sz : Nat} {news : List PV} {a : Option Addr} {c b f : Nat} (hx : vx = .slice a news.length c) (ha : news.length = 0 ∨ a = some ⟨b, f, none⟩)
    (hc : ∀ (i : Nat) d, news[i]? = some d → (ecells d).length = sz ∧ ∀ (t : Nat) x, (ecells d)[t]? = some x → ∃ u, w.cell? ⟨b, f + (i * sz + t), none⟩ = some u ∧ one x = true ∧ VRep G h w D u x) :
    Src G h w vx sz news (fun q => (w.cell? ⟨b, f + q, none⟩).getD undef) (fun _ _ => none) := by
  refine ⟨⟨a, c, hx, ha.imp id fun e => ⟨b, f, e, fun q hq => ?_⟩⟩, fun i d hd => ⟨(hc i d hd).1, fun t x hx' => ?_⟩⟩
  · have hn := div_lt hq
    obtain ⟨d, hd⟩ : ∃ d, news[q / sz]? = some d := ⟨news[q / sz], List.getElem?_eq_getElem hn⟩
    obtain ⟨h1, h2⟩ := hc _ d hd
    have h0 : 0 < sz := by
      rcases Nat.eq_zero_or_pos sz with rfl | h0
      · omega
      · exact h0
    have hm : q % sz < (ecells d).length := by rw [h1]; exact Nat.mod_lt _ h0
    obtain ⟨u, h3, _⟩ := h2 (q % sz) _ (List.getElem?_eq_getElem hm)
    rw [show q / sz * sz + q % sz = q by rw [Nat.mul_comm]; exact Nat.div_add_mod q sz] at h3
    rw [h3]; rfl
  · obtain ⟨u, h3, h4, h5⟩ := (hc i d hd).2 t x hx'
    show ECell G h w none ((w.cell? ⟨b, f + (i * sz + t), none⟩).getD undef) x
    rw [h3]; exact ⟨h4, h5⟩
theorem frzC_pure {c : PV} (hp : pureC c = true) : frzC c = c := by cases c <;> first | rfl | (simp [pureC] at hp)
theorem frzE_pure {e : PV} (hp : (ecells e).all pureC = true) : frzE e = e := by
  cases e
  case agg cs =>
    show PV.agg (cs.map frzC) = .agg cs
    congr 1
    conv => rhs; rw [← List.map_id cs]
    exact List.map_congr_left fun c hc => frzC_pure (List.all_eq_true.1 hp c hc)
  case uslc => simp [ecells, pureC] at hp
  case nils => simp [ecells, pureC] at hp
  all_goals rfl
theorem sz_of {sz : Nat} {news : List PV} (hz : szOk sz news = true) {i : Nat} {d : PV} (hd : news[i]? = some d) : (ecells d).length = sz := by
  have := List.all_eq_true.1 hz d (List.mem_of_getElem? hd)
  simpa using this
/-- what is appended -/
theorem snd_src (hr : HRep B Z0 G h w) {hide : List Nat} {mode sz : Nat} {vx : Value} {px : PV} {news : List PV} {ws : List (Nat × Row)} (hm4 : mode ≠ 4) (hv : VRep G h w D vx px) (hz : szOk sz news = true) (hk : srcP (lkOf h hide) mode px = some (news, ws)) :
    ∃ G1 V mk, HRep B Z0 G1 (upd h ws) w ∧ Ext G h w G1 (upd h ws) w ∧ Src G1 (upd h ws) w vx sz news V mk ∧ (∀ k, k ∉ ws.map (·.1) → (upd h ws)[k]? = h[k]?) ∧
      (∀ i t k2, mk i t = some k2 → i < news.length ∧ k2 ∈ ws.map (·.1) ∧ (∃ g2, (upd h ws)[k2]? = some (g2, .dead)) ∧ (G1.R (root k2) → ¬ G1.Z (G1.β (root k2)))) ∧ (∀ i t i' t' k2, mk i t = some k2 → mk i' t' = some k2 → i = i' ∧ t = t') ∧
      (∀ k, k ∉ ws.map (·.1) → (G1.R (root k) ↔ G.R (root k)) ∧ G1.β (root k) = G.β (root k) ∧ G1.γ (root k) = G.γ (root k)) := by
  have triv : ∀ {V}, ws = [] → Src G h w vx sz news V (fun _ _ => none) → ∃ G1 V mk, HRep B Z0 G1 (upd h ws) w ∧ Ext G h w G1 (upd h ws) w ∧ Src G1 (upd h ws) w vx sz news V mk ∧ (∀ k, k ∉ ws.map (·.1) → (upd h ws)[k]? = h[k]?) ∧
      (∀ i t k2, mk i t = some k2 → i < news.length ∧ k2 ∈ ws.map (·.1) ∧ (∃ g2, (upd h ws)[k2]? = some (g2, .dead)) ∧ (G1.R (root k2) → ¬ G1.Z (G1.β (root k2)))) ∧ (∀ i t i' t' k2, mk i t = some k2 → mk i' t' = some k2 → i = i' ∧ t = t') ∧
      (∀ k, k ∉ ws.map (·.1) → (G1.R (root k) ↔ G.R (root k)) ∧ G1.β (root k) = G.β (root k) ∧ G1.γ (root k) = G.γ (root k)) := fun {V} e hs => by
    subst e
    exact ⟨G, V, fun _ _ => none, hr, Ext.refl, hs, fun _ _ => rfl, fun _ _ _ e => absurd e (by simp), fun _ _ _ _ _ e => absurd e (by simp), fun _ _ => ⟨Iff.rfl, rfl, rfl⟩⟩
  unfold srcP at hk
  rw [if_neg hm4] at hk
  cases px <;> (try (simp [srcS] at hk; done))
  case slc es =>
    simp only [srcS, Option.some.injEq, Prod.mk.injEq] at hk
    obtain ⟨rfl, rfl⟩ := hk
    obtain ⟨a, c, sz0, rfl, h2, h3, h4, h5⟩ := PR.slc_iff.1 (rep_slc hv)
    by_cases hn : es.length = 0
    · exact triv rfl (src_of (b := 0) (f := 0) rfl (.inl hn) fun i d hd => by rw [List.length_eq_zero_iff.1 hn] at hd; simp at hd)
    · obtain ⟨e0, he0⟩ : ∃ e, es[0]? = some e := ⟨es[0], List.getElem?_eq_getElem (by omega)⟩
      obtain ⟨h6, b, o, rfl, _⟩ := h5 0 e0 he0
      refine triv rfl (src_of (b := b) (f := o) rfl (.inr rfl) fun i d hd => ⟨sz_of hz hd, fun t x hx => ?_⟩)
      obtain ⟨h7, b', o', e1, h8, h9⟩ := h5 i d hd
      cases e1
      obtain ⟨h10, u, h11, h12⟩ := h9 t x hx
      exact ⟨u, by rw [← sz_of hz hd, h7]; exact h11, h10, prep_vrep h10 h12⟩
  case lst es =>
    simp only [srcS] at hk
    split at hk
    · rename_i hl
      simp only [Option.some.injEq, Prod.mk.injEq] at hk
      obtain ⟨rfl, rfl⟩ := hk
      unfold D at hv; unfold VRep at hv
      obtain ⟨a, c, rfl, _⟩ := hv
      exact triv rfl (src_of (b := 0) (f := 0) (a := some a) (c := c) (by rw [hl]; rfl) (.inl rfl) fun i d hd => by simp at hd)
    · cases hk
  case nils =>
    simp only [srcS, Option.some.injEq, Prod.mk.injEq] at hk
    obtain ⟨rfl, rfl⟩ := hk
    obtain rfl := rep_nils hv
    exact triv rfl (src_of (b := 0) (f := 0) (a := none) (c := 0) rfl (.inl rfl) fun i d hd => by simp at hd)
  case own k g gl s o l =>
    simp only [srcS] at hk
    split at hk
    · rename_i g' s' ver fr es hlk
      split at hk
      · rename_i hc
        obtain ⟨rfl, hgl, rfl, hol⟩ := hc
        have hh := lk_some hlk (by simp)
        have hob := hr.ob k _ _ hh
        unfold ORep at hob
        obtain ⟨o1, o2, o3, o4, o5⟩ := hob
        unfold D at hv; unfold VRep at hv
        obtain ⟨a, c, rfl, q1, q2, q3, gn, ob, q4, q5, q6⟩ := hv
        rw [hh] at q4; cases q4
        obtain ⟨_, q7⟩ := q6 rfl _ _ _ _ rfl
        obtain ⟨_, q8, q9⟩ := q7 hgl
        have hsub : ((es.drop o).take l).length = l := by simp; omega
        -- the cells
        have hcells : l = 0 ∨ ∃ f us T, G.R (root k) ∧ a = some ⟨G.β (root k), f, none⟩ ∧ (f = o * s') ∧ w.heap[G.β (root k)]? = some (.cells us T (0, 0)) ∧ us.size = G.γ (root k) * s' ∧ ∀ (i : Nat) e, es[i]? = some e → (ecells e).length = s' ∧ ∀ (j : Nat) c, (ecells e)[j]? = some c → ∃ u, us[i * s' + j]? = some u ∧ CRep G h w k i j u c := by
          by_cases hl0 : l = 0
          · exact .inl hl0
          · right
            have hR : G.R (root k) := Classical.byContradiction fun hn => by
              have := o5 hn; subst this; simp at hgl; omega
            obtain ⟨us, T, o6, o7, o8⟩ := o4 hR
            obtain ⟨f, e1, q10, _⟩ := q8 hR
            refine ⟨f, us, T, hR, e1, ?_, o6, o7, o8⟩
            rcases q10 with q10 | q10
            · omega
            · exact q10 rfl
        split at hk
        · -- a list that is written out
          split at hk
          · rename_i ds ks hemb
            split at hk
            · cases hk
            · rename_i hkk
              have hkk : k ∉ ks := by simpa using hkk
              simp only [Option.some.injEq, Prod.mk.injEq] at hk
              obtain ⟨rfl, rfl⟩ := hk
              have hlive : ∀ (i : Nat) e, ((es.drop o).take l)[i]? = some e → ∀ (t : Nat) c, (ecells e)[t]? = some c → one c = true ∧ VRep G h w D ((w.cell? ⟨G.β (root k), (o + i) * s' + t, none⟩).getD undef) c := fun i e he t c hc => by
                have hil : i < l := by rw [← hsub]; exact (List.getElem?_eq_some_iff.1 he).1
                rw [List.getElem?_take, if_pos hil, List.getElem?_drop] at he
                obtain ⟨f, us, T, hR, _, _, o6, o7, o8⟩ := hcells.resolve_left (by omega)
                obtain ⟨u, o11, o12⟩ := (o8 _ e he).2 t c hc
                rw [block_cell o6, o11]
                have hone : one c = true := by
                  have : ∀ {cs : List PV} {ds : List PV} {ks : List Nat}, embCs (lkOf h hide) cs = some (ds, ks) → ∀ c ∈ cs, one c = true := by
                    intro cs
                    induction cs with
                    | nil => intro _ _ _ c hc; simp at hc
                    | cons c0 cs ih =>
                      intro ds ks hk c hc
                      simp only [embCs] at hk
                      split at hk
                      · rename_i hc0 hcs0
                        rcases List.mem_cons.1 hc with rfl | hc
                        · cases c <;> first | rfl | (simp [embC] at hc0)
                        · exact ih hcs0 c hc
                      · cases hk
                  have h2 : ∀ {es ds : List PV} {ks : List Nat}, embEs (lkOf h hide) es = some (ds, ks) → ∀ e ∈ es, ∃ ds ks, embCs (lkOf h hide) (ecells e) = some (ds, ks) := by
                    intro es
                    induction es with
                    | nil => intro _ _ _ c hc; simp at hc
                    | cons c0 cs ih =>
                      intro ds ks hk c hc
                      simp only [embEs] at hk
                      split at hk
                      · rename_i hc0 hcs0
                        rcases List.mem_cons.1 hc with rfl | hc
                        · unfold embE at hc0
                          split at hc0
                          · exact ⟨_, _, by assumption⟩
                          · cases hc0
                        · exact ih hcs0 c hc
                      · cases hk
                  have hmem : e ∈ (es.drop o).take l := List.mem_of_getElem? (i := i) (by rw [List.getElem?_take, if_pos hil, List.getElem?_drop]; exact he)
                  obtain ⟨ds', ks', h3⟩ := h2 hemb e hmem
                  exact this h3 c (List.mem_of_getElem? hc)
                cases c <;> first | (simp [one] at hone; done) | (unfold CRep at o12; exact o12)
              obtain ⟨G1, mk, e1, e2, e3, e4, e5, e6, e7⟩ := embEs_spec (val := fun i t => (w.cell? ⟨G.β (root k), (o + i) * s' + t, none⟩).getD undef) hr (fun _ _ => rfl) (fun _ _ _ _ _ _ => rfl) hlive hemb
              obtain ⟨x1, x2⟩ := kill_simple e1 ((e3.other k hkk).trans hh)
              have hupd : upd h (kill (lkOf h hide) (ks ++ [k])) = (upd h (kill (lkOf h hide) ks)).set k (g', .dead) := by
                rw [kill_append, upd_append]; simp [upd, kill, hlk]
              have hw1 : (kill (lkOf h hide) (ks ++ [k])).map (·.1) = ks ++ [k] := by simp [kill, Function.comp_def]
              rw [hupd, hw1]
              have hlen : ds.length = l := by rw [e4, hsub]
              refine ⟨G1, fun q => (w.cell? ⟨G.β (root k), o * s' + q, none⟩).getD undef, mk, x1, e2.trans x2, ?_, ?_, ?_, e7, ?_⟩
              · refine ⟨⟨a, c, by rw [hlen], ?_⟩, fun i d hd => ?_⟩
                · rw [hlen]
                  by_cases hl0 : l = 0
                  · exact .inl hl0
                  · right
                    obtain ⟨f, us, T, hR, e8, hf, o6, o7, o8⟩ := hcells.resolve_left hl0
                    obtain ⟨d0, hd0⟩ : ∃ d, ds[0]? = some d := ⟨ds[0], List.getElem?_eq_getElem (by omega)⟩
                    have hss : sz = s' := by
                      rw [← sz_of hz hd0]
                      obtain ⟨e9, he9⟩ : ∃ e, ((es.drop o).take l)[0]? = some e := ⟨((es.drop o).take l)[0], List.getElem?_eq_getElem (by omega)⟩
                      rw [(e5 0 d0 e9 hd0 he9).1]
                      rw [List.getElem?_take, if_pos (by omega), List.getElem?_drop] at he9
                      exact (o8 _ e9 he9).1
                    refine ⟨_, f, e8, fun q hq => ?_⟩
                    rw [hf, block_cell o6]
                    have hlt : o * s' + q < us.size := by
                      rw [o7]
                      have h9 : (o + l) * s' ≤ G.γ (root k) * s' := Nat.mul_le_mul_right _ (by omega)
                      rw [Nat.add_mul] at h9
                      rw [hss] at hq; omega
                    simp [hlt]
                · refine ⟨sz_of hz hd, fun t cc hcc => ?_⟩
                  have hil : i < l := by rw [← hlen]; exact (List.getElem?_eq_some_iff.1 hd).1
                  obtain ⟨e9, he9⟩ : ∃ e, ((es.drop o).take l)[i]? = some e := ⟨((es.drop o).take l)[i], List.getElem?_eq_getElem (by omega)⟩
                  obtain ⟨q10, q11⟩ := e5 i d e9 hd he9
                  rw [List.getElem?_take, if_pos hil, List.getElem?_drop] at he9
                  obtain ⟨f, us, T, hR, e8, hf, o6, o7, o8⟩ := hcells.resolve_left (by omega)
                  have hss : sz = s' := by rw [← sz_of hz hd, q10]; exact (o8 _ e9 he9).1
                  have hec := q11 t cc hcc
                  rw [show (o + i) * s' + t = o * s' + (i * sz + t) by rw [hss, Nat.add_mul]; omega] at hec
                  refine hec.ext x2 (fun k2 hm => SameKey.refl _ _) (fun k2 hm _ => rfl)
              · intro k' hk'
                simp only [List.mem_append, List.mem_singleton, not_or] at hk'
                rw [List.getElem?_set_ne (Ne.symm hk'.2)]
                exact e3.other k' hk'.1
              · intro i t k2 hm
                obtain ⟨p1, p2⟩ := e6 i t k2 hm
                have hne : k2 ≠ k := fun e => hkk (e ▸ p1)
                refine ⟨p2, by simp [p1], ?_, fun hR2 => killed_nz hr e3 p1 (by rw [e3.R] at hR2; exact hR2)⟩
                obtain ⟨g2, hg2⟩ := e3.dead k2 p1
                exact ⟨g2, by rw [List.getElem?_set_ne (Ne.symm hne)]; exact hg2⟩
              · intro k' hk'
                simp only [List.mem_append, List.mem_singleton, not_or] at hk'
                obtain ⟨p1, p2, p3, _⟩ := e3.same k' none hk'.1
                exact ⟨p2, p1, p3⟩
          · cases hk
        · split at hk
          · rename_i hno
            obtain ⟨hno, _⟩ := hno
            simp only [Option.some.injEq, Prod.mk.injEq] at hk
            obtain ⟨rfl, hws⟩ := hk
            have hlen : (((es.drop o).take l).map frzE).length = l := by simp; omega
            have hget : ∀ (i : Nat) d, (((es.drop o).take l).map frzE)[i]? = some d → ∃ e, es[o + i]? = some e ∧ d = frzE e ∧ i < l := fun i d hd => by
              have hil : i < l := by rw [← hlen]; exact (List.getElem?_eq_some_iff.1 hd).1
              rw [List.getElem?_map, List.getElem?_take, if_pos hil, List.getElem?_drop] at hd
              obtain ⟨e, he, rfl⟩ := Option.map_eq_some_iff.1 hd
              exact ⟨e, he, rfl, hil⟩
            have hss : ∀ {i : Nat} {e : PV}, es[o + i]? = some e → i < l → sz = s' := fun {i e} he hil => by
              obtain ⟨f, us, T, hR, e8, hf, o6, o7, o8⟩ := hcells.resolve_left (by omega)
              have hd : (((es.drop o).take l).map frzE)[i]? = some (frzE e) := by
                rw [List.getElem?_map, List.getElem?_take, if_pos hil, List.getElem?_drop, he]; rfl
              rw [← sz_of hz hd, ecells_frz, List.length_map]; exact (o8 _ e he).1
            split at hws
            · rename_i hpure
              subst hws
              refine triv rfl (src_of (b := G.β (root k)) (f := o * s') (a := a) (c := c) (by rw [hlen]) ?_ fun i d hd => ⟨sz_of hz hd, fun t x hx => ?_⟩)
              · rw [hlen]
                by_cases hl0 : l = 0
                · exact .inl hl0
                · obtain ⟨f, us, T, hR, e8, hf, o6, o7, o8⟩ := hcells.resolve_left hl0
                  exact .inr (by rw [e8, hf])
              · obtain ⟨e, he, rfl, hil⟩ := hget i d hd
                obtain ⟨f, us, T, hR, e8, hf, o6, o7, o8⟩ := hcells.resolve_left (by omega)
                rw [frzE_pure (List.all_eq_true.1 hpure e (List.mem_of_getElem? he))] at hx
                obtain ⟨u, o11, o12⟩ := (o8 _ e he).2 t x hx
                have hpx : pureC x = true := List.all_eq_true.1 (List.all_eq_true.1 hpure e (List.mem_of_getElem? he)) x (List.mem_of_getElem? hx)
                have hone := pure_one hpx
                refine ⟨u, ?_, hone, ?_⟩
                · rw [block_cell o6, hss he hil, show o * s' + (i * s' + t) = (o + i) * s' + t by rw [Nat.add_mul]; omega]; exact o11
                · cases x <;> first | (simp [pureC] at hpx; done) | (unfold CRep at o12; exact o12.2)
            · subst hws
              obtain ⟨x1, x2⟩ := frz_obj hr hh hno
              refine ⟨G.frz2 k, _, fun _ _ => none, x1, x2, src_of (b := G.β (root k)) (f := o * s') (a := a) (c := c) (by rw [hlen]) ?_ (fun i d hd => ⟨sz_of hz hd, fun t x hx => ?_⟩), fun k' hk' => ?_, fun _ _ _ e => absurd e (by simp), fun _ _ _ _ _ e => absurd e (by simp), fun k' hk' => ?_⟩
              · rw [hlen]
                by_cases hl0 : l = 0
                · exact .inl hl0
                · obtain ⟨f, us, T, hR, e8, hf, o6, o7, o8⟩ := hcells.resolve_left hl0
                  exact .inr (by rw [e8, hf])
              · obtain ⟨e, he, rfl, hil⟩ := hget i d hd
                have hnew : (h.set k (g', Ob.arr s' (ver + 1) fr (es.map frzE)))[k]? = some (g', Ob.arr s' (ver + 1) fr (es.map frzE)) := List.getElem?_set_self (List.getElem?_eq_some_iff.1 hh).1
                have he' : (es.map frzE)[o + i]? = some (frzE e) := by rw [List.getElem?_map, he]; rfl
                obtain ⟨_, us, T, p1, p2, p3, p4⟩ := ob_at x1 hnew he'
                obtain ⟨u, p5, p6⟩ := p4 t x hx
                have hpx : pureC x = true := by
                  rw [ecells_frz, List.getElem?_map] at hx
                  obtain ⟨c0, hc0, rfl⟩ := Option.map_eq_some_iff.1 hx
                  have hnr : (pureC c0 || isU c0) = true := List.all_eq_true.1 (show (ecells e).all (fun c => pureC c || isU c) = true from List.all_eq_true.1 hno e (List.mem_of_getElem? he)) c0 (List.mem_of_getElem? hc0)
                  cases c0 <;> first | rfl | (simp [pureC, isU] at hnr)
                refine ⟨u, ?_, pure_one hpx, ?_⟩
                · rw [block_cell (show w.heap[G.β (root k)]? = _ from p1), hss he hil, show o * s' + (i * s' + t) = (o + i) * s' + t by rw [Nat.add_mul]; omega]; exact p5
                · cases x <;> first | (simp [pureC] at hpx; done) | (unfold CRep at p6; exact p6.2)
              · simp at hk'; exact List.getElem?_set_ne (Ne.symm hk')
              · simp at hk'
                exact ⟨⟨fun x => x.2, fun x => ⟨fun _ => rfl, x⟩⟩, rfl, rfl⟩
          · cases hk
      · cases hk
    · cases hk
  case nown k g ver i j o l =>
    simp only [srcS] at hk
    split at hk
    · rename_i g' s0 ver' fr es hlk
      split at hk
      · rename_i hc
        obtain ⟨rfl, rfl⟩ := hc
        split at hk
        · rename_i e he
          split at hk
          · rename_i ns hns
            split at hk
            · rename_i ho
              obtain ⟨rfl, hl⟩ := ho
              simp only [Option.some.injEq, Prod.mk.injEq] at hk
              obtain ⟨rfl, rfl⟩ := hk
              have hh := lk_some hlk (by simp)
              unfold D at hv; unfold VRep at hv
              obtain ⟨a, c, rfl, q1, q2, q3, gn, ob, q4, q5, q6⟩ := hv
              rw [hh] at q4; cases q4
              obtain ⟨_, q7⟩ := q6 rfl _ _ _ _ rfl
              obtain ⟨ns', hns', q8, q9, q10⟩ := q7 rfl
              rw [cellAt_some he hns] at hns'; cases hns'
              have hlen : (ns.take l).length = l := by simp; omega
              by_cases hl0 : l = 0
              · subst hl0
                exact triv rfl (src_of (b := 0) (f := 0) (a := a) (c := c) (by simp) (.inl (by simp)) fun i d hd => by simp at hd)
              · obtain ⟨hR, us, T, h5, h6, h7, h8⟩ := ob_at hr hh he
                obtain ⟨u0, h9, h10⟩ := h8 j _ hns
                unfold CRep NRep at h10
                have hRn : G.R (nest k i j) := Classical.byContradiction fun hc => by
                  obtain ⟨_, rfl⟩ := h10.2 hc
                  simp at hl; omega
                obtain ⟨us2, T2, ff, cc, _, _, h11, h12, h12', h13, h14, h15, h16⟩ := h10.1 hRn
                obtain ⟨f, rfl, q11⟩ := q9 hRn
                have hf : f = 0 := by
                  rcases q11 with q11 | q11
                  · omega
                  · simpa using q11
                subst hf
                refine triv rfl (src_of (b := G.β (nest k i j)) (f := 0) (c := c) (by rw [hlen]) (.inr rfl) fun a d hd => ⟨sz_of hz hd, fun t x hx => ?_⟩)
                have hal : a < l := by rw [← hlen]; exact (List.getElem?_eq_some_iff.1 hd).1
                have hd' := hd
                rw [List.getElem?_take, if_pos hal] at hd'
                obtain ⟨p1, p2⟩ := h16 a d hd'
                obtain ⟨p3, u, p4, p5⟩ := p2 t x hx
                refine ⟨u, ?_, p3, prep_vrep p3 p5⟩
                rw [block_cell h13, Nat.zero_add, ← sz_of hz hd, p1]; exact p4
            · cases hk
          · cases hk
        · cases hk
      · cases hk
    · cases hk
end
end Go.Proofs.Ytgdcogoacnghkaa.Am
/-
  .. append.
-/
namespace Go.Proofs.Ytgdcogoacnghkaa.Am
set_option linter.unusedSimpArgs false
set_option linter.unusedVariables false
set_option linter.unusedSectionVars false
open Go.RowKit
section
variable {P : Program} {B : Nat} {Z0 : Nat → Prop} {G G' : Gh} {h h' : Heap} {w w' : World}
def Gh.virt (G : Gh) (k : Nat) : Gh := { G with R := fun key => key.1 ≠ k ∧ G.R key, γ := fun key => if key = root k then 0 else G.γ key }
/-- a new array without a block -/
theorem virt_obj (hr : HRep B Z0 G h w) {k g sz : Nat} {old : Ob} (hh : h[k]? = some (g, old)) (h0 : 0 < sz) : HRep B Z0 (G.virt k) (h.set k (g + 1, .arr sz 0 false [])) w ∧ Ext G h w (G.virt k) (h.set k (g + 1, .arr sz 0 false [])) w := by
  have hk : k < h.length := (List.getElem?_eq_some_iff.1 hh).1
  have hsame : ∀ k' y, k' ≠ k → SameKey G (G.virt k) (k', y) := fun k' y hkk => ⟨rfl, ⟨fun x => x.2, fun x => ⟨hkk, x⟩⟩, by simp [Gh.virt, hkk], rfl⟩
  have x : Ext G h w (G.virt k) (h.set k (g + 1, .arr sz 0 false [])) w := by
    refine ⟨fun _ y => y, fun _ _ => rfl, fun k' gn o e => ?_⟩
    by_cases hkk : k' = k
    · subst hkk; rw [hh] at e; cases e
      exact ⟨g + 1, _, List.getElem?_set_self hk, by omega, fun e => by omega⟩
    · exact ⟨gn, o, by rw [List.getElem?_set_ne (Ne.symm hkk)]; exact e, Nat.le_refl _, fun _ => Keep.refl k' o (hsame _ _ hkk) fun i j => hsame _ _ hkk⟩
  refine ⟨hr.update k (g + 1) _ hk x (fun k' y hkk => .inl (hsame k' y hkk)) (fun _ _ _ _ => rfl) (Nat.le_refl _) hr.zb (fun b hb => .inl hb) (fun _ _ _ _ hn => hn) (fun y hR => absurd rfl hR.1) (fun e => by cases e) ?_, x⟩
  unfold ORep
  exact ⟨h0, Nat.zero_le _, by simp [Gh.virt], fun hR => absurd rfl hR.1, fun _ => rfl⟩
/-- what is appended, as cells -/
def SrcC (G : Gh) (h : Heap) (w : World) (sz : Nat) (news : List PV) (V : Nat → Value) (mk : Nat → Nat → Option Nat) : Prop :=
  ∀ (i : Nat) d, news[i]? = some d → (ecells d).length = sz ∧ ∀ (t : Nat) c, (ecells d)[t]? = some c → ECell G h w (mk i t) (V (i * sz + t)) c
/-- new elements in an array -/
theorem dest_append (hr : HRep B Z0 G h w) {k g sz ver ver' γ0 b l : Nat} {es news : List PV} {us us' : Array Value} {T T0 : TypeId} {V : Nat → Value} {mk : Nat → Nat → Option Nat} (hh : h[k]? = some (g, .arr sz ver false es)) (hs : SrcC G h w sz news V mk)
    (hmk : ∀ i t k2, mk i t = some k2 → i < news.length ∧ k2 ≠ k ∧ (∃ g2, h[k2]? = some (g2, .dead)) ∧ (G.R (root k2) → ¬ G.Z (G.β (root k2)))) (hinj : ∀ i t i' t' k2, mk i t = some k2 → mk i' t' = some k2 → i = i' ∧ t = t')
    (hl : l ≤ es.length) (hv : (l = es.length ∧ ver' = ver) ∨ ver' = ver + 1)
    (hwhere : (G.R (root k) ∧ b = G.β (root k) ∧ γ0 = G.γ (root k)) ∨ (b = w.heap.size ∧ es.length < l + news.length))
    (hnew : w'.heap[b]? = some (.cells us' T (0, 0))) (hold : ∀ x, x < w.heap.size → x ≠ b → w'.heap[x]? = w.heap[x]?) (hsz : w.heap.size ≤ w'.heap.size)
    (c1 : us'.size = γ0 * sz) (c2 : (es.take l ++ news ++ es.drop (l + news.length)).length ≤ γ0) (c3 : γ0 ≤ maxLen)
    (hb : es ≠ [] → w.heap[G.β (root k)]? = some (.cells us T0 (0, 0)))
    (hu1 : ∀ q, q < news.length * sz → us'[l * sz + q]? = some (V q)) (hu2 : ∀ i j, j < sz → i < es.length → ¬ (l ≤ i ∧ i < l + news.length) → us'[i * sz + j]? = us[i * sz + j]?) :
    ∃ G', HRep B Z0 G' (h.set k (g, .arr sz ver' false (es.take l ++ news ++ es.drop (l + news.length)))) w' ∧ Ext G h w G' (h.set k (g, .arr sz ver' false (es.take l ++ news ++ es.drop (l + news.length)))) w' ∧ G'.R (root k) ∧ G'.β (root k) = b ∧ G'.γ (root k) = γ0 := by
  have hget : ∀ (i : Nat) e, (es.take l ++ news ++ es.drop (l + news.length))[i]? = some e → (l ≤ i ∧ i < l + news.length ∧ news[i - l]? = some e) ∨ (¬ (l ≤ i ∧ i < l + news.length) ∧ es[i]? = some e) := by
    intro i e he
    have h1 : (es.take l).length = l := by simp; omega
    by_cases c1 : i < l
    · right
      rw [List.append_assoc, List.getElem?_append_left (by omega), List.getElem?_take, if_pos c1] at he
      exact ⟨by omega, he⟩
    · rw [List.append_assoc, List.getElem?_append_right (by omega), h1] at he
      by_cases c2 : i < l + news.length
      · left
        rw [List.getElem?_append_left (by omega)] at he
        exact ⟨by omega, c2, he⟩
      · right
        rw [List.getElem?_append_right (by omega), List.getElem?_drop, show l + news.length + (i - l - news.length) = i by omega] at he
        exact ⟨by omega, he⟩
  have hget' : ∀ (i : Nat) e, es[i]? = some e → ¬ (l ≤ i ∧ i < l + news.length) → (es.take l ++ news ++ es.drop (l + news.length))[i]? = some e := by
    intro i e he hni
    have h1 : (es.take l).length = l := by simp; omega
    by_cases c1 : i < l
    · rw [List.append_assoc, List.getElem?_append_left (by omega), List.getElem?_take, if_pos c1]; exact he
    · rw [List.append_assoc, List.getElem?_append_right (by omega), h1, List.getElem?_append_right (by omega), List.getElem?_drop, show l + news.length + (i - l - news.length) = i by omega]; exact he
  have hlen : (es.take l ++ news ++ es.drop (l + news.length)).length = max es.length (l + news.length) := by simp; omega
  obtain ⟨x1, x2⟩ := dest_update (ver' := ver') (es' := es.take l ++ news ++ es.drop (l + news.length)) (mk := fun i j => if l ≤ i ∧ i < l + news.length then mk (i - l) j else none) hr hh
    (hwhere.imp id fun ⟨p1, p2⟩ => ⟨p1, by rw [hlen]; omega⟩) hnew hold hsz
    (fun i j k2 hm => by
      try dsimp only at hm
      split at hm
      · exact (hmk _ _ _ hm).2
      · cases hm)
    (fun i j i' j' k2 hm hm' => by
      try dsimp only at hm hm'
      split at hm
      · split at hm'
        · obtain ⟨p1, p2⟩ := hinj _ _ _ _ _ hm hm'
          exact ⟨by omega, p2⟩
        · cases hm'
      · cases hm)
    c1 c2 c3 (by rw [hlen]; omega) (by omega) (fun hver i j ns hc => by
      have hle : l = es.length := by rcases hv with ⟨p, _⟩ | p <;> omega
      have hi : i < es.length := by
        cases he : es[i]? with
        | none => simp [cellAt, he] at hc
        | some e => exact (List.getElem?_eq_some_iff.1 he).1
      obtain ⟨e, he⟩ : ∃ e, es[i]? = some e := ⟨es[i], List.getElem?_eq_getElem hi⟩
      have hn : ¬ (l ≤ i ∧ i < l + news.length) := by omega
      refine ⟨ns, ?_, rfl, by rw [if_neg hn]⟩
      simp only [cellAt, hget' i e he hn, Option.bind_some]
      simpa [cellAt, he] using hc)
    (fun i e he => by
      rcases hget i e he with ⟨p1, p2, p3⟩ | ⟨p1, p2⟩
      · obtain ⟨q1, q2⟩ := hs _ e p3
        refine ⟨q1, fun j c hc => ?_⟩
        have hjs : j < sz := by rw [← q1]; exact (List.getElem?_eq_some_iff.1 hc).1
        have hmm : (if l ≤ i ∧ i < l + news.length then mk (i - l) j else none) = mk (i - l) j := if_pos ⟨p1, p2⟩
        refine ⟨V ((i - l) * sz + j), ?_, ?_⟩
        · have h9 : (i - l + 1) * sz ≤ news.length * sz := Nat.mul_le_mul_right _ (by omega)
          rw [Nat.add_mul] at h9
          have := hu1 ((i - l) * sz + j) (by omega)
          rw [← this]
          congr 1
          have : i * sz = l * sz + (i - l) * sz := by rw [← Nat.add_mul]; congr 1; omega
          omega
        · try dsimp only
          rw [hmm]
          exact ecell_match (q2 j c hc)
      · have hi := (List.getElem?_eq_some_iff.1 p2).1
        obtain ⟨_, us2, T2, q1, q2, q3, q4⟩ := ob_at hr hh p2
        rw [hb fun e => by rw [e] at hi; simp at hi] at q1; cases q1
        refine ⟨q3, fun j c hc => ?_⟩
        have hjs : j < sz := by rw [← q3]; exact (List.getElem?_eq_some_iff.1 hc).1
        obtain ⟨u, q5, q6⟩ := q4 j c hc
        have hmm : (if l ≤ i ∧ i < l + news.length then mk (i - l) j else none) = none := if_neg p1
        refine ⟨u, by rw [hu2 i j hjs hi p1]; exact q5, ?_⟩
        try dsimp only
        rw [hmm]
        exact q6)
  exact ⟨_, x1, x2, by simp [Gh.mv], by simp [Gh.mv], by simp [Gh.mv]⟩
theorem src_one {sz : Nat} {news : List PV} {V : Nat → Value} {mk : Nat → Nat → Option Nat} (h0 : 0 < sz) (hs : SrcC G h w sz news V mk) {q : Nat} (hq : q < news.length * sz) : (V q).oneCell' = true := by
  have hn := div_lt hq
  obtain ⟨d, hd⟩ : ∃ d, news[q / sz]? = some d := ⟨news[q / sz], List.getElem?_eq_getElem hn⟩
  obtain ⟨h1, h2⟩ := hs _ d hd
  have hm : q % sz < (ecells d).length := by rw [h1]; exact Nat.mod_lt _ h0
  have h3 := h2 (q % sz) _ (List.getElem?_eq_getElem hm)
  rw [show q / sz * sz + q % sz = q by rw [Nat.mul_comm]; exact Nat.div_add_mod q sz] at h3
  cases hmk : mk (q / sz) (q % sz) with
  | none => rw [hmk] at h3; exact oneCell_of h3.1 h3.2
  | some k =>
    rw [hmk] at h3
    obtain ⟨ns, _, h4⟩ := h3
    unfold NRep at h4
    by_cases hR : G.R (root k)
    · obtain ⟨_, _, _, _, h5, _⟩ := h4.1 hR; rw [h5]; rfl
    · rw [(h4.2 hR).1]; rfl
theorem SrcC.ext {sz : Nat} {news : List PV} {V : Nat → Value} {mk : Nat → Nat → Option Nat} (x : Ext G h w G' h' w) (hk : ∀ i t k, mk i t = some k → SameKey G G' (root k)) (hs : SrcC G h w sz news V mk) : SrcC G' h' w sz news V mk :=
  fun i d hd => ⟨(hs i d hd).1, fun t c hc => ((hs i d hd).2 t c hc).ext x (fun k hm => hk i t k hm) fun _ _ _ => rfl⟩
/-- the cells that are appended -/
def newC (V : Nat → Value) (n : Nat) : List Value := (List.range n).map V
theorem newC_len (V : Nat → Value) (n : Nat) : (newC V n).length = n := by simp [newC]
theorem newC_get {V : Nat → Value} {n q : Nat} (hq : q < n) : (newC V n)[q]? = some (V q) := by simp [newC, hq]
theorem run_app_none (t ty e : TypeId) (i : TypeInfo) (ht : P.underlying t = some (.slice e)) (hi : P.info? e = some i) (a : Option Addr) (l c : Nat) (hlc : l ≤ c) (ax : Option Addr) (cx : Nat) :
    (Builtin.append_ #[t, t] ty #[.slice a l c, .slice ax 0 cx]).run P w = .ok (.slice a l c) w := by
  cases a <;> cases ax <;> simp [Builtin.append_, run_underlying ht, sizeOf, typeInfo, hi, Builtin.lenOf, hlc, Builtin.firstCells, loadCells, loadCellsFrom, storeCells]
theorem run_app_room (t ty e : TypeId) (i : TypeInfo) (ht : P.underlying t = some (.slice e)) (hi : P.info? e = some i) (T : TypeId)
    (g sLen sCap : Nat) (cur : Array Value) (hg : w.heap[g]? = some (.cells cur T (0, 0)))
    (a : Addr) (m c : Nat) (news : List Value) (hl : news.length = m * i.size) (hnews : ∀ j u, news[j]? = some u → w.cell? (a.add j) = some u) (h1 : ∀ u ∈ news, u.oneCell' = true)
    (hroom : sLen + m ≤ sCap) (hfit : sLen * i.size + news.length ≤ cur.size) :
    (Builtin.append_ #[t, t] ty #[.slice (some ⟨g, 0, none⟩) sLen sCap, .slice (some a) m c]).run P w =
      .ok (.slice (some ⟨g, 0, none⟩) (sLen + m) sCap) (w.setRow g (putIn cur (sLen * i.size) news)) := by
  have hf := run_firstCells_some (P := P) w i.size m a m c news hl hnews
  have hst := run_storeCells_at P g (sLen * i.size) T news 0 cur w hg (by simpa using hfit) h1
  simp only [Nat.add_zero] at hst
  simp [Builtin.append_, run_underlying ht, sizeOf, typeInfo, hi, Builtin.lenOf, hroom, hf, Addr.add_lit, hst, putIn]
/-- how an append goes: n elements, their cells N -/
structure ARun (P : Program) (w : World) (e : TypeId) (i : TypeInfo) (zv : Value) (A : Value → Sem Value) (n : Nat) (N : List Value) : Prop where
  none0 : n = 0 → ∀ (a : Option Addr) (l c : Nat), l ≤ c → (A (.slice a l c)).run P w = .ok (.slice a l c) w
  room : n ≠ 0 → ∀ (T : TypeId) (g l c : Nat) (cur : Array Value), w.heap[g]? = some (.cells cur T (0, 0)) → l + n ≤ c → n * i.bytes ≤ 140737488355328 → l * i.size + N.length ≤ cur.size → (∀ u ∈ N, u.oneCell' = true) → (A (.slice (some ⟨g, 0, none⟩) l c)).run P w = .ok (.slice (some ⟨g, 0, none⟩) (l + n) c) (w.setRow g (putIn cur (l * i.size) N))
  nil : n ≠ 0 → n * i.bytes ≤ 140737488355328 → n ≤ 140737488355328 → (A (.slice none 0 0)).run P w = .ok (.slice (some ⟨w.heap.size, 0, none⟩) n (grownCap w n 0 e)) (w.drew.alloc (.cells (N.toArray ++ Builtin.zeroCells zv.cells (grownCap w n 0 e - n)) e))
  grow : n ≠ 0 → ∀ (b : Addr) (l c : Nat) (olds : List Value), olds.length = l * i.size → (∀ (j : Nat) v, olds[j]? = some v → w.cell? (b.add j) = some v) → c < l + n → l + n ≤ 140737488355328 → (l + n) * i.bytes ≤ 140737488355328 → (A (.slice (some b) l c)).run P w = .ok (.slice (some ⟨w.heap.size, 0, none⟩) (l + n) (grownCap w (l + n) c e)) (w.drew.alloc (.cells (olds.toArray ++ N.toArray ++ Builtin.zeroCells zv.cells (grownCap w (l + n) c e - (l + n))) e))
/-- APPEND, however the elements come -/
theorem snd_app {hide : List Nat} {e : TypeId} {k by_ : Nat} {s : Value} {ps v : PV} {news : List PV} {ws ws' : List (Nat × Row)} {i : TypeInfo} {zv : Value} {A : Value → Sem Value} {G1 : Gh} {V : Nat → Value} {mk : Nat → Nat → Option Nat} (hr : HRep B Z0 G h w) (hk : k < h.length ∧ hide.contains k = false)
    (hzc : zv.cells.size = i.size) (hpos : 0 < i.size) (hby : i.bytes = by_) (hb0 : by_ ≠ 0) (hvs : VRep G h w D s ps)
    (hdis : appDst k ps ∉ ws.map (·.1)) (happ : appP (lkOf h hide) k i.size by_ ps news = some (v, ws'))
    (e1 : HRep B Z0 G1 (upd h ws) w) (e2 : Ext G h w G1 (upd h ws) w) (e3 : SrcC G1 (upd h ws) w i.size news V mk) (e4 : ∀ k, k ∉ ws.map (·.1) → (upd h ws)[k]? = h[k]?)
    (e5 : ∀ i t k2, mk i t = some k2 → i < news.length ∧ k2 ∈ ws.map (·.1) ∧ (∃ g2, (upd h ws)[k2]? = some (g2, .dead)) ∧ (G1.R (root k2) → ¬ G1.Z (G1.β (root k2)))) (e6 : ∀ i t i' t' k2, mk i t = some k2 → mk i' t' = some k2 → i = i' ∧ t = t')
    (hA : ARun P w e i zv A news.length (newC V (news.length * i.size))) :
    Good P B Z0 G h w (do pure (.value (← A s))) v (ws ++ ws') := by
  cases ps <;> (try (simp [appP] at happ; done))
  case nils =>
    simp only [appP] at happ
    split at happ
    · rename_i hbytes
      simp only [Option.some.injEq, Prod.mk.injEq] at happ
      obtain ⟨rfl, rfl⟩ := happ
      obtain rfl := rep_nils hvs
      obtain ⟨⟨g, old⟩, hh⟩ : ∃ r, h[k]? = some r := ⟨_, List.getElem?_eq_getElem hk.1⟩
      rw [lk_gen hk.2 hh]
      have hh1 := (e4 k hdis).trans hh
      obtain ⟨v1, v2⟩ := virt_obj (sz := i.size) e1 hh1 hpos
      have hlen1 : k < (upd h ws).length := by rw [upd_length]; exact hk.1
      have hupd : ∀ r, upd h (ws ++ [(k, r)]) = (upd h ws).set k r := fun r => by rw [upd_append]; rfl
      by_cases hn : news.length = 0
      · have : news = [] := List.length_eq_zero_iff.1 hn
        subst this
        refine ⟨_, .slice none 0 0, w, G1.virt k, by simp [hA.none0 rfl .none 0 0 (Nat.le_refl _)], .inl rfl, by rw [hupd]; exact v1, by rw [hupd]; exact e2.trans v2, ?_, Bl.refl _ _⟩
        rw [hupd]
        unfold D; unfold VRep
        refine ⟨none, 0, rfl, Nat.le_refl _, Nat.zero_le _, .inl ⟨rfl, rfl⟩, g + 1, _, List.getElem?_set_self hlen1, Nat.le_refl _, fun _ sz' vr fr es e => ?_⟩
        cases e
        exact ⟨Nat.le_refl _, fun _ => ⟨Nat.zero_le _, fun hR => absurd rfl hR.1, fun _ => ⟨rfl, rfl⟩⟩⟩
      · have hVl := newC_len V (news.length * i.size)
        have hnl : news.length ≤ 140737488355328 := by have := Nat.le_mul_of_pos_right news.length (Nat.pos_of_ne_zero hb0); omega
        have hrun := hA.nil hn (by rw [hby]; omega) (by omega)
        have hcap := grownCap_ge w news.length 0 e
        have hcm := grownCap_le_maxLen w news.length 0 e (by unfold maxLen; omega)
        have hc0 : (upd h ws).set k (g + 1, Ob.arr i.size 0 false []) = (upd h ws).set k (g + 1, Ob.arr i.size 0 false []) := rfl
        obtain ⟨G2, d1, d2, d3, d4, d5⟩ := dest_append (ver' := 0) (γ0 := grownCap w news.length 0 e) (l := 0) (us := #[]) (T0 := 0) (w' := w.drew.alloc (.cells ((newC V (news.length * i.size)).toArray ++ Builtin.zeroCells zv.cells (grownCap w news.length 0 e - news.length)) e)) v1 (List.getElem?_set_self hlen1)
          (e3.ext v2 fun a t k2 hm => by
            have hne : k2 ≠ k := fun e => hdis (e ▸ (e5 a t k2 hm).2.1)
            exact ⟨rfl, ⟨fun y => y.2, fun y => ⟨hne, y⟩⟩, by simp [Gh.virt, hne], rfl⟩)
          (fun a t k2 hm => by
            obtain ⟨p1, p2, ⟨g2, p3⟩, p4⟩ := e5 a t k2 hm
            have hne : k2 ≠ k := fun e => hdis (e ▸ p2)
            exact ⟨p1, hne, ⟨g2, by rw [List.getElem?_set_ne (Ne.symm hne)]; exact p3⟩, fun hR => p4 hR.2⟩)
          e6 (Nat.le_refl 0) (.inl ⟨rfl, rfl⟩) (.inr ⟨rfl, by simp; omega⟩) (heap_alloc_new w.drew _) (fun y hy _ => Below.heap_alloc w.drew _ y hy) (by simp)
          (by
            rw [Array.size_append, size_zeroCells, hzc, List.size_toArray, hVl, ← Nat.add_mul]; congr 1; omega)
          (by simpa using hcap) hcm (fun e => absurd rfl e)
          (fun q hq => by
            rw [Nat.zero_mul, Nat.zero_add, Array.getElem?_append_left (by simpa [hVl] using hq)]
            rw [List.getElem?_toArray]; exact newC_get hq)
          (fun a j _ ha => by simp at ha)
        have hE : ([] : List PV).take 0 ++ news ++ ([] : List PV).drop (0 + news.length) = news := by simp
        rw [hE, List.set_set] at d1 d2
        refine ⟨_, _, _, G2, by simp only [Sem.run_bind, hrun, Result.andThen_ok, Sem.run_pure]; rfl, .inl rfl, by rw [hupd]; exact d1, by rw [hupd]; exact e2.trans (v2.trans d2), ?_, (Bl.drew (Bl.refl _ _)).alloc (by simpa using hr.base) _⟩
        rw [hupd]
        unfold D; unfold VRep
        refine ⟨_, _, rfl, hcap, hcm, .inr ⟨_, _, rfl⟩, g + 1, _, List.getElem?_set_self hlen1, Nat.le_refl _, fun _ sz' vr fr es e9 => ?_⟩
        cases e9
        exact ⟨Nat.le_refl _, fun _ => ⟨by omega, fun _ => ⟨0, by rw [d4], .inr (by simp), by omega, by rw [d5]; omega⟩, fun hn' => absurd d3 hn'⟩⟩
    · cases happ
  case own k1 g gl s0 o l =>
    simp only [appP] at happ
    split at happ
    · rename_i g' sz1 ver fr es hlk
      split at happ
      · rename_i hc
        obtain ⟨rfl, hgl, rfl, rfl, rfl, rfl, hlg, hbytes⟩ := hc
        have hh := lk_some hlk (by simp)
        have hh1 := (e4 k1 hdis).trans hh
        have hk1 : k1 < (upd h ws).length := (List.getElem?_eq_some_iff.1 hh1).1
        have hupd : ∀ r, upd h (ws ++ [(k1, r)]) = (upd h ws).set k1 r := fun r => by rw [upd_append]; rfl
        -- the two forms are one
        have hall : ∃ ver', ((l = es.length ∧ ver' = ver) ∨ (l ≠ es.length ∧ ver' = ver + 1)) ∧ v = .own k1 g' (es.take l ++ news ++ es.drop (l + news.length)).length i.size 0 (l + news.length) ∧ ws' = [(k1, (g', .arr i.size ver' false (es.take l ++ news ++ es.drop (l + news.length))))] := by
          split at happ
          · rename_i hlgl
            simp only [Option.some.injEq, Prod.mk.injEq] at happ
            obtain ⟨rfl, rfl⟩ := happ
            have h1 : es.take l = es := List.take_of_length_le (by omega)
            have h2 : es.drop (l + news.length) = [] := List.drop_eq_nil_of_le (by omega)
            refine ⟨ver, .inl ⟨by omega, rfl⟩, ?_, ?_⟩
            · rw [h1, h2, List.append_nil, List.length_append, hgl, hlgl]
            · rw [h1, h2, List.append_nil]
          · simp only [Option.some.injEq, Prod.mk.injEq] at happ
            obtain ⟨rfl, rfl⟩ := happ
            rename_i hlgl
            exact ⟨ver + 1, .inr ⟨by omega, rfl⟩, rfl, rfl⟩
        obtain ⟨ver', hv0, rfl, rfl⟩ := hall
        have hv' : (l = es.length ∧ ver' = ver) ∨ ver' = ver + 1 := hv0.imp id fun y => y.2
        have hlenE : (es.take l ++ news ++ es.drop (l + news.length)).length = max es.length (l + news.length) := by simp; omega
        have hvs1 := hvs.ext e2
        unfold D at hvs1; unfold VRep at hvs1
        obtain ⟨a, c, rfl, q1, q2, q3, gn, ob, q4, q5, q6⟩ := hvs1
        rw [hh1] at q4; cases q4
        obtain ⟨_, q7⟩ := q6 rfl _ _ _ _ rfl
        obtain ⟨_, q8, q9⟩ := q7 hgl
        have hob := e1.ob k1 _ _ hh1
        unfold ORep at hob
        obtain ⟨o1, o2, o3, o4, o5⟩ := hob
        have hnl : l + news.length ≤ 140737488355328 := by have := Nat.le_mul_of_pos_right (l + news.length) (Nat.pos_of_ne_zero hb0); omega
        have hVl := newC_len V (news.length * i.size)
        have hmk' : ∀ a t k2, mk a t = some k2 → a < news.length ∧ k2 ≠ k1 ∧ (∃ g2, (upd h ws)[k2]? = some (g2, .dead)) ∧ (G1.R (root k2) → ¬ G1.Z (G1.β (root k2))) := fun a t k2 hm => by
          obtain ⟨p1, p2, p3, p4⟩ := e5 a t k2 hm
          exact ⟨p1, fun e => hdis (e ▸ p2), p3, p4⟩
        by_cases hR : G1.R (root k1)
        · obtain ⟨us, T, o6, o7, o8⟩ := o4 hR
          obtain ⟨f, rfl, q10, q11, q12⟩ := q8 hR
          have hfc : f = 0 ∨ c = 0 := by
            rcases q10 with q10 | q10
            · exact .inr q10
            · exact .inl (by simpa using q10 rfl)
          by_cases hroom : l + news.length ≤ c
          · -- there is room
            have hfit : l * i.size + (newC V (news.length * i.size)).length ≤ us.size := by
              rw [hVl, o7, ← Nat.add_mul]; exact Nat.mul_le_mul_right _ (by omega)
            have hD := fun (us' : Array Value) (w' : World) => dest_append (ver' := ver') (γ0 := G1.γ (root k1)) (b := G1.β (root k1)) (l := l) (us := us) (T0 := T) (T := T) (us' := us') (w' := w') e1 hh1 e3 hmk' e6 (by omega) hv' (.inl ⟨hR, rfl, rfl⟩)
            by_cases hn : news.length = 0
            · obtain ⟨G2, d1, d2, d3, d4, d5⟩ := hD us w o6 (fun _ _ _ => rfl) (Nat.le_refl _) o7 (by rw [hlenE]; omega) o3 (fun _ => o6) (fun q hq => by rw [hn] at hq; omega) (fun _ _ _ _ _ => rfl)
              refine ⟨_, .slice (some ⟨G1.β (root k1), f, none⟩) l c, w, G2, ?_, .inl rfl, by rw [hupd]; exact d1, by rw [hupd]; exact e2.trans d2, ?_, Bl.refl _ _⟩
              · simp [hA.none0 hn (some ⟨G1.β (root k1), f, none⟩) l c (by omega)]
              · rw [hupd]
                unfold D; unfold VRep
                refine ⟨_, _, by rw [hn]; rfl, by omega, q2, .inr ⟨_, _, rfl⟩, g', _, List.getElem?_set_self hk1, Nat.le_refl _, fun _ sz' vr fr es' e9 => ?_⟩
                cases e9
                refine ⟨Nat.le_refl _, fun _ => ⟨by rw [hlenE]; omega, fun _ => ⟨f, by rw [d4], ?_, by rw [hlenE]; omega, by rw [d5]; omega⟩, fun hn' => absurd d3 hn'⟩⟩
                rcases hfc with hf | hf
                · exact .inr fun _ => by omega
                · exact .inl hf
            · have hf : f = 0 := by omega
              subst hf
              have hrun := hA.room hn T (G1.β (root k1)) l c us o6 hroom (by rw [hby]; have := Nat.mul_le_mul_right by_ (Nat.le_add_left news.length l); omega) hfit (fun u hu => by
                obtain ⟨q, hq, rfl⟩ := List.mem_map.1 hu
                exact src_one hpos e3 (by simpa using hq))
              obtain ⟨G2, d1, d2, d3, d4, d5⟩ := hD (putIn us (l * i.size) (newC V (news.length * i.size))) (w.setRow (G1.β (root k1)) (putIn us (l * i.size) (newC V (news.length * i.size)))) (setRow_heap w _ us _ T (0, 0) o6) (fun x _ hx => setRow_other w _ _ _ hx) (by simp) (by rw [putIn_size hfit]; exact o7) (by rw [hlenE]; omega) o3 (fun _ => o6)
                (fun q hq => by rw [putIn_get hfit, if_pos (by rw [hVl]; omega), show l * i.size + q - l * i.size = q by omega]; exact newC_get hq)
                (fun a j hj ha hna => by
                  rw [putIn_get hfit, if_neg ?_]
                  rw [hVl]
                  rintro ⟨z1, z2⟩
                  by_cases hal : a < l
                  · have : (a + 1) * i.size ≤ l * i.size := Nat.mul_le_mul_right _ (by omega)
                    rw [Nat.add_mul] at this; omega
                  · have : (l + news.length) * i.size ≤ a * i.size := Nat.mul_le_mul_right _ (by omega)
                    rw [Nat.add_mul] at this; omega)
              refine ⟨_, _, _, G2, by simp only [Sem.run_bind, hrun, Result.andThen_ok, Sem.run_pure]; rfl, .inl rfl, by rw [hupd]; exact d1, by rw [hupd]; exact e2.trans d2, ?_, below_row (Bl.refl _ _) (e1.lv _ hR).1 _ (by assumption)⟩
              rw [hupd]
              unfold D; unfold VRep
              refine ⟨_, _, rfl, by omega, q2, .inr ⟨_, _, rfl⟩, g', _, List.getElem?_set_self hk1, Nat.le_refl _, fun _ sz' vr fr es' e9 => ?_⟩
              cases e9
              exact ⟨Nat.le_refl _, fun _ => ⟨by rw [hlenE]; omega, fun _ => ⟨0, by rw [d4], .inr (by simp), by rw [hlenE]; omega, by rw [d5]; omega⟩, fun hn' => absurd d3 hn'⟩⟩
          · -- a new block
            have hn : news.length ≠ 0 := by omega
            have hOl : l * i.size ≤ us.size := by rw [o7]; exact Nat.mul_le_mul_right _ (by omega)
            have hf0 : l * i.size = 0 ∨ f = 0 := by
              rcases hfc with hf | hf
              · exact .inr hf
              · left; have : l = 0 := by omega
                rw [this, Nat.zero_mul]
            have hrun := hA.grow hn ⟨G1.β (root k1), f, none⟩ l c (us.toList.take (l * i.size)) (by simp; omega) (fun j u hj => by
                have hjl : j < l * i.size := by have := (List.getElem?_eq_some_iff.1 hj).1; simp at this; omega
                rw [List.getElem?_take, if_pos hjl] at hj
                rw [Addr.add_lit, show f + j = j by omega, block_cell o6]; simpa using hj) (by omega) hnl (by rw [hby]; exact hbytes)
            have hcap := grownCap_ge w (l + news.length) c e
            have hcm := grownCap_le_maxLen w (l + news.length) c e (by unfold maxLen; omega)
            have hOlen : (us.toList.take (l * i.size)).toArray.size = l * i.size := by simp; omega
            obtain ⟨G2, d1, d2, d3, d4, d5⟩ := dest_append (ver' := ver') (γ0 := grownCap w (l + news.length) c e) (l := l) (us := us) (T0 := T)
              (w' := w.drew.alloc (.cells ((us.toList.take (l * i.size)).toArray ++ (newC V (news.length * i.size)).toArray ++ Builtin.zeroCells zv.cells (grownCap w (l + news.length) c e - (l + news.length))) e)) e1 hh1 e3 hmk' e6 (by omega) hv' (.inr ⟨rfl, by omega⟩)
              (heap_alloc_new w.drew _) (fun y hy _ => Below.heap_alloc w.drew _ y hy) (by simp)
              (by rw [Array.size_append, Array.size_append, size_zeroCells, hzc, hOlen, List.size_toArray, hVl, ← Nat.add_mul, ← Nat.add_mul]; congr 1; omega)
              (by rw [hlenE]; omega) hcm (fun _ => o6)
              (fun q hq => by
                rw [Array.append_assoc, Array.getElem?_append_right (by rw [hOlen]; omega), hOlen, Array.getElem?_append_left (by simp [hVl]; omega), show l * i.size + q - l * i.size = q by omega]
                rw [List.getElem?_toArray]; exact newC_get hq)
              (fun a j hj ha hna => by
                have hal : a < l := by omega
                have h9 : (a + 1) * i.size ≤ l * i.size := Nat.mul_le_mul_right _ (by omega)
                rw [Nat.add_mul] at h9
                rw [Array.append_assoc, Array.getElem?_append_left (by rw [hOlen]; omega), List.getElem?_toArray, List.getElem?_take, if_pos (by omega)]; simp)
            refine ⟨_, _, _, G2, by simp only [Sem.run_bind, hrun, Result.andThen_ok, Sem.run_pure]; rfl, .inl rfl, by rw [hupd]; exact d1, by rw [hupd]; exact e2.trans d2, ?_, (Bl.drew (Bl.refl _ _)).alloc (by simpa using hr.base) _⟩
            rw [hupd]
            unfold D; unfold VRep
            refine ⟨_, _, rfl, hcap, hcm, .inr ⟨_, _, rfl⟩, g', _, List.getElem?_set_self hk1, Nat.le_refl _, fun _ sz' vr fr es' e9 => ?_⟩
            cases e9
            exact ⟨Nat.le_refl _, fun _ => ⟨by rw [hlenE]; omega, fun _ => ⟨0, by rw [d4], .inr (by simp), by rw [hlenE]; omega, by rw [d5]; omega⟩, fun hn' => absurd d3 hn'⟩⟩
        · have hes := o5 hR
          subst hes
          obtain ⟨rfl, _⟩ := q9 hR
          have hc0 : c = 0 := by
            rcases q3 with ⟨_, q⟩ | ⟨_, _, q⟩
            · exact q
            · cases q
          subst hc0
          have hl0 : l = 0 := by omega
          subst hl0
          obtain rfl : ver' = ver := by
            rcases hv0 with h9 | h9
            · exact h9.2
            · exact absurd rfl h9.1
          by_cases hn : news.length = 0
          · have : news = [] := List.length_eq_zero_iff.1 hn
            subst this
            have hsame : (upd h ws).set k1 (g', Ob.arr i.size ver' false []) = upd h ws := by
              apply List.ext_getElem?
              intro j
              by_cases hj : j = k1
              · subst hj; rw [List.getElem?_set_self hk1, hh1]
              · rw [List.getElem?_set_ne (Ne.symm hj)]
            refine ⟨_, .slice none 0 0, w, G1, by simp [hA.none0 rfl .none 0 0 (Nat.le_refl _)], .inl rfl, ?_, ?_, ?_, Bl.refl _ _⟩
            · rw [hupd]; simp only [List.take_nil, List.append_nil, List.drop_nil]; rw [hsame]; exact e1
            · rw [hupd]; simp only [List.take_nil, List.append_nil, List.drop_nil]; rw [hsame]; exact e2
            · rw [hupd]; simp only [List.take_nil, List.append_nil, List.drop_nil]; rw [hsame]
              unfold D; unfold VRep
              refine ⟨none, 0, rfl, Nat.le_refl _, Nat.zero_le _, .inl ⟨rfl, rfl⟩, g', _, hh1, Nat.le_refl _, fun _ sz' vr fr es e9 => ?_⟩
              cases e9
              exact ⟨Nat.le_refl _, fun _ => ⟨Nat.zero_le _, fun hR' => absurd hR' hR, fun _ => ⟨rfl, rfl⟩⟩⟩
          · have hrun := hA.nil hn (by rw [hby]; rw [Nat.zero_add] at hbytes; omega) (by omega)
            have hcap := grownCap_ge w news.length 0 e
            have hcm := grownCap_le_maxLen w news.length 0 e (by unfold maxLen; omega)
            obtain ⟨G2, d1, d2, d3, d4, d5⟩ := dest_append (ver' := ver') (γ0 := grownCap w news.length 0 e) (l := 0) (us := #[]) (T0 := 0) (w' := w.drew.alloc (.cells ((newC V (news.length * i.size)).toArray ++ Builtin.zeroCells zv.cells (grownCap w news.length 0 e - news.length)) e)) e1 hh1 e3 hmk' e6 (Nat.le_refl 0) (.inl ⟨rfl, rfl⟩) (.inr ⟨rfl, by simp; omega⟩)
              (heap_alloc_new w.drew _) (fun y hy _ => Below.heap_alloc w.drew _ y hy) (by simp)
              (by rw [Array.size_append, size_zeroCells, hzc, List.size_toArray, hVl, ← Nat.add_mul]; congr 1; omega)
              (by simpa using hcap) hcm (fun e => absurd rfl e)
              (fun q hq => by
                rw [Nat.zero_mul, Nat.zero_add, Array.getElem?_append_left (by simpa [hVl] using hq)]
                rw [List.getElem?_toArray]; exact newC_get hq)
              (fun a j _ ha => by simp at ha)
            refine ⟨_, .slice (some ⟨w.heap.size, 0, none⟩) (0 + news.length) (grownCap w news.length 0 e), _, G2, by simp only [Sem.run_bind, hrun, Result.andThen_ok, Sem.run_pure, Nat.zero_add]; rfl, .inl rfl, by rw [hupd]; exact d1, by rw [hupd]; exact e2.trans d2, ?_, (Bl.drew (Bl.refl _ _)).alloc (by simpa using hr.base) _⟩
            rw [hupd]
            unfold D; unfold VRep
            refine ⟨_, _, rfl, by omega, hcm, .inr ⟨_, _, rfl⟩, g', _, List.getElem?_set_self hk1, Nat.le_refl _, fun _ sz' vr fr es' e9 => ?_⟩
            cases e9
            exact ⟨Nat.le_refl _, fun _ => ⟨by rw [hlenE]; omega, fun _ => ⟨0, by rw [d4], .inr (by simp), by rw [hlenE]; simp; omega, by rw [d5]; omega⟩, fun hn' => absurd d3 hn'⟩⟩
      · cases happ
    · cases happ
theorem ARun.ofSlice (t ty e : TypeId) (i : TypeInfo) (zv : Value) (ht : P.underlying t = some (.slice e)) (hi : P.info? e = some i) (hiz : i.zero = some zv) {G : Gh} {h : Heap} {x : Value} {news : List PV} {V : Nat → Value} {mk : Nat → Nat → Option Nat} (hs : Src G h w x i.size news V mk) :
    ARun P w e i zv (fun s => Builtin.append_ #[t, t] ty #[s, x]) news.length (newC V (news.length * i.size)) := by
  obtain ⟨⟨ax, cx, rfl, hax⟩, _⟩ := hs
  have hVl := newC_len V (news.length * i.size)
  refine ⟨fun hn a l c hlc => ?_, fun hn T g l c cur hg hroom _ hfit h1 => ?_, fun hn hb hl => ?_, fun hn b l c olds ho hov hg hl hb => ?_⟩
  · rw [hn]; exact run_app_none (P := P) (w := w) t ty e i ht hi a l c hlc ax cx
  · obtain ⟨b, fx, rfl, hV⟩ := hax.resolve_left hn
    exact run_app_room (P := P) (w := w) t ty e i ht hi T g l c cur hg ⟨b, fx, none⟩ news.length cx (newC V (news.length * i.size)) hVl (fun j u hj => by
      have hj' : j < news.length * i.size := by rw [← hVl]; exact (List.getElem?_eq_some_iff.1 hj).1
      rw [newC_get hj'] at hj; cases hj
      rw [Addr.add_lit]; exact hV j hj') h1 hroom hfit
  · obtain ⟨b, fx, rfl, hV⟩ := hax.resolve_left hn
    exact run_append_nil (P := P) w t ty e i zv ht hi hiz ⟨b, fx, none⟩ news.length cx (newC V (news.length * i.size)) hVl (fun j u hj => by
      have hj' : j < news.length * i.size := by rw [← hVl]; exact (List.getElem?_eq_some_iff.1 hj).1
      rw [newC_get hj'] at hj; cases hj
      rw [Addr.add_lit]; exact hV j hj') (by omega) (by omega) (by omega)
  · obtain ⟨a, fx, rfl, hV⟩ := hax.resolve_left hn
    exact run_append_grow (P := P) w t ty e i zv ht hi hiz b l c olds ho hov ⟨a, fx, none⟩ news.length cx (newC V (news.length * i.size)) hVl (fun j u hj => by
        have hj' : j < news.length * i.size := by rw [← hVl]; exact (List.getElem?_eq_some_iff.1 hj).1
        rw [newC_get hj'] at hj; cases hj
        rw [Addr.add_lit]; exact hV j hj') hg (by omega) (growslice_fits hg hb)
/-- APPEND -/
theorem snd_append (hr : HRep B Z0 G h w) {hide : List Nat} {t ty e : TypeId} {k mode sz by_ : Nat} {s x : Value} {ps px z v : PV} {news : List PV} {ws ws' : List (Nat × Row)} (hk : k < h.length ∧ hide.contains k = false) (ht : P.underlying t = some (.slice e)) (hs : sizeA P e = some sz) (hb : bytesA P e = some by_) (hz : zeroA P e = some z)
    (hzl : (ecells z).length = sz) (h0 : sz ≠ 0) (hb0 : by_ ≠ 0) (hvs : VRep G h w D s ps) (hm4 : mode ≠ 4) (hvx : VRep G h w D x px) (hsrc : srcP (lkOf h hide) mode px = some (news, ws)) (hszok : szOk sz news = true)
    (hdis : appDst k ps ∉ ws.map (·.1)) (happ : appP (lkOf h hide) k sz by_ ps news = some (v, ws')) :
    Good P B Z0 G h w (do pure (.value (← Builtin.append_ #[t, t] ty #[s, x]))) v (ws ++ ws') := by
  obtain ⟨i, zv, hi, hiz, hzv⟩ := zeroA_some hz
  obtain ⟨i', hi', rfl⟩ := sizeA_some hs
  rw [hi] at hi'; cases hi'
  have hby : i.bytes = by_ := by unfold bytesA at hb; rw [hi] at hb; simpa using hb
  have hzc : zv.cells.size = i.size := by rw [(lrep_one (G := G) (h := h) (w := w) hzv).1, hzl]
  have hpos : 0 < i.size := by omega
  obtain ⟨G1, V, mk, e1, e2, e3, e4, e5, e6, e7⟩ := snd_src hr hm4 hvx hszok hsrc
  exact snd_app (A := fun s => Builtin.append_ #[t, t] ty #[s, x]) hr hk hzc hpos hby hb0 hvs hdis happ e1 e2 e3.cells e4 e5 e6 (ARun.ofSlice t ty e i zv ht hi hiz e3)
theorem zeros_one {z0 zv : Value} (hz : zv.cells = #[z0]) (n : Nat) : Builtin.zeroCells zv.cells n = (newC (fun _ => z0) n).toArray := by
  apply Array.ext'
  rw [hz]
  simp [Builtin.zeroCells, newC, Nat.mod_one]
theorem ARun.ofMake (t u ty e : TypeId) (i : TypeInfo) (zv z0 : Value) (ht : P.underlying t = some (.slice e)) {ik : IntKind} (hu : P.underlying u = some (.int ik)) (hi : P.info? e = some i) (hiz : i.zero = some zv) (hz : zv.cells = #[z0]) (h1 : i.size = 1) {n : Nat} (hn : n ≤ 140737488355328) {kk : IntKind} :
    ARun P w e i zv (fun s => Builtin.append_ #[t, u] ty #[s, .int kk n]) n (newC (fun _ => z0) (n * i.size)) := by
  have hw : IntKind.i64.wrap (n : Int) = (n : Int) := by
    unfold IntKind.wrap
    simp [IntKind.signed, IntKind.bits]
    omega
  have hs1 : n * i.size = n := by rw [h1, Nat.mul_one]
  have hneg : ¬ ((n : Int) < 0) := by omega
  have hzz := zeros_one hz n
  rw [hs1]
  refine ⟨fun hn0 a l c hlc => ?_, fun hn0 T g l c cur hg hroom hb hfit h1' => ?_, fun hn0 hb hl => ?_, fun hn0 b l c olds ho hov hg hl hb => ?_⟩
  · subst hn0
    have w0 : IntKind.i64.wrap 0 = 0 := rfl
    cases a <;> simp [Builtin.append_, run_underlying ht, run_underlying hu, sizeOf, typeInfo, hi, w0, hlc, Go.asInt, asIntOf, storeCells]
  · have hb' : ¬ (281474976710656 < (n : Int) * (i.bytes : Int)) := by
      have : ((n * i.bytes : Nat) : Int) ≤ 140737488355328 := by omega
      rw [Int.natCast_mul] at this; omega
    have hst := run_storeCells_at P g (l * i.size) T (newC (fun _ => z0) n) 0 cur w hg (by simpa using hfit) h1'
    simp only [Nat.add_zero] at hst
    simp [Builtin.append_, run_underlying ht, run_underlying hu, sizeOf, typeInfo, hi, hw, hneg, hb', Go.asInt, asIntOf, hroom, hs1, hn0, zeroValue, hiz, hzz, Addr.add_lit, hst, putIn]
  · have hb' : ¬ (281474976710656 < (n : Int) * (i.bytes : Int)) := by
      have : ((n * i.bytes : Nat) : Int) ≤ 140737488355328 := by omega
      rw [Int.natCast_mul] at this; omega
    have h63 : ¬ (9223372036854775807 < (n : Int)) := by omega
    have h48 : ¬ (281474976710656 < Builtin.nextslicecap n 0 * i.bytes) := by rw [nextslicecap_zero (by omega)]; omega
    simp [Builtin.append_, run_underlying ht, run_underlying hu, sizeOf, typeInfo, hi, hw, hneg, hb', Go.asInt, asIntOf, hs1, hn0, zeroValue, hiz, hzz, h63, h48, Question.forced, run_firstCells_none, newRow, grownCap]
  · have hb' : ¬ (281474976710656 < (n : Int) * (i.bytes : Int)) := by
      have h5 := Nat.mul_le_mul_right i.bytes (Nat.le_add_left n l)
      have : ((n * i.bytes : Nat) : Int) ≤ 140737488355328 := by omega
      rw [Int.natCast_mul] at this; omega
    have h63 : ¬ (9223372036854775807 < (l : Int) + (n : Int)) := by omega
    have hg' : ¬ (l + n ≤ c) := by omega
    have h48 : ¬ (281474976710656 < Builtin.nextslicecap (l + n) c * i.bytes) := by have := growslice_fits hg hb; omega
    have hfo := run_firstCells_some (P := P) w.drew i.size l b l c olds ho (by simpa using hov)
    simp [Builtin.append_, run_underlying ht, run_underlying hu, sizeOf, typeInfo, hi, hw, hneg, hb', Go.asInt, asIntOf, hs1, hn0, zeroValue, hiz, hzz, h63, h48, hg', Question.forced, hfo, newRow, grownCap]
    congr 2
    apply Array.ext'
    simp
/-- APPEND of new zeros -/
theorem snd_grow (hr : HRep B Z0 G h w) {hide : List Nat} {t u ty e : TypeId} {k by_ : Nat} {s : Value} {ps v : PV} {n : Int} {ws' : List (Nat × Row)} {ik kk : IntKind} (hk : k < h.length ∧ hide.contains k = false) (ht : P.underlying t = some (.slice e)) (hu : P.underlying u = some (.int ik)) (hs : sizeA P e = some 1) (hb : bytesA P e = some by_) (hz : zeroA P e = some (.int .u8 0))
    (hb0 : by_ ≠ 0) (hn : 0 ≤ n ∧ n ≤ 140737488355328) (hvs : VRep G h w D s ps) (happ : appP (lkOf h hide) k 1 by_ ps (List.replicate n.toNat (.int .u8 0)) = some (v, ws')) :
    Good P B Z0 G h w (do pure (.value (← Builtin.append_ #[t, u] ty #[s, .int kk n]))) v ws' := by
  obtain ⟨m, rfl⟩ : ∃ m : Nat, n = m := ⟨n.toNat, by omega⟩
  rw [Int.toNat_natCast] at happ
  obtain ⟨i, zv, hi, hiz, hzv⟩ := zeroA_some hz
  obtain ⟨i', hi', h1⟩ := sizeA_some hs
  rw [hi] at hi'; cases hi'
  have hby : i.bytes = by_ := by unfold bytesA at hb; rw [hi] at hb; simpa using hb
  have hzv' : zv = .int .u8 0 := by
    exact rep_int (ofV_rep (G := G) (h := h) (w := w) hzv).1
  subst hzv'
  have hA := ARun.ofMake (P := P) (w := w) t u ty e i (.int .u8 0) (.int .u8 0) ht hu hi hiz rfl h1 (n := m) (by omega) (kk := kk)
  rw [← List.length_replicate (n := m) (a := PV.int .u8 0)] at hA
  have := snd_app (P := P) (e := e) (i := i) (zv := .int .u8 0) (A := fun s => Builtin.append_ #[t, u] ty #[s, .int kk ((List.replicate m (PV.int .u8 0)).length : Nat)]) (ws := []) (G1 := G) (V := fun _ => .int .u8 0) (mk := fun _ _ => none) hr hk (by rw [h1]; rfl) (by omega) hby hb0 hvs (by simp) (by rw [h1]; exact happ) hr Ext.refl ?_ (fun _ _ => rfl) (fun _ _ _ e => absurd e (by simp)) (fun _ _ _ _ _ e => absurd e (by simp)) hA
  · rw [List.length_replicate] at this
    simpa using this
  · intro j d hd
    rw [List.getElem?_replicate] at hd
    split at hd
    · cases hd
      refine ⟨by rw [h1]; rfl, fun t c hc => ?_⟩
      have : t = 0 ∧ c = .int .u8 0 := by
        cases t with
        | zero => simp [ecells] at hc; exact ⟨rfl, hc.symm⟩
        | succ t => simp [ecells] at hc
      obtain ⟨rfl, rfl⟩ := this
      refine ⟨rfl, ?_⟩
      unfold D; unfold VRep; rfl
    · cases hd
theorem Src.take {vx : Value} {sz l : Nat} {news : List PV} {V : Nat → Value} {mk : Nat → Nat → Option Nat} (hs : Src G h w vx sz news V mk) : ∃ vx', Src G h w vx' sz (news.take l) V (fun i t => if i < (news.take l).length then mk i t else none) := by
  obtain ⟨⟨a, c, rfl, ha⟩, hc⟩ := hs
  refine ⟨.slice a (news.take l).length c, ⟨a, c, rfl, ?_⟩, fun i d hd => ?_⟩
  · rcases ha with ha | ⟨b, f, rfl, hV⟩
    · left; rw [List.length_take]; omega
    · right; exact ⟨b, f, rfl, fun q hq => hV q (Nat.lt_of_lt_of_le hq (Nat.mul_le_mul_right _ (by simp; omega)))⟩
  · have hi := (List.getElem?_eq_some_iff.1 hd).1
    rw [List.getElem?_take] at hd
    split at hd
    · obtain ⟨h1, h2⟩ := hc i d hd
      refine ⟨h1, fun t c hc => ?_⟩
      have := h2 t c hc
      simp only [hi, if_true]
      exact this
    · cases hd
theorem run_copy_none (t u ty e : TypeId) (i : TypeInfo) (ht : P.underlying t = some (.slice e)) (hi : P.info? e = some i) (a : Option Addr) (l c : Nat) (ax : Option Addr) (m cx : Nat) (hm : Nat.min m l = 0) :
    (Builtin.copy_ #[t, u] ty #[.slice a l c, .slice ax m cx]).run P w = .ok (.int .i64 0) w := by
  cases a <;> cases ax <;> simp [Builtin.copy_, run_underlying ht, sizeOf, typeInfo, hi, Builtin.lenOf, hm, Builtin.firstCells, loadCells, loadCellsFrom, storeCells, goInt]
theorem run_copy_some (t u ty e : TypeId) (i : TypeInfo) (ht : P.underlying t = some (.slice e)) (hi : P.info? e = some i) (T : TypeId)
    (g off l c : Nat) (cur : Array Value) (hg : w.heap[g]? = some (.cells cur T (0, 0)))
    (a : Addr) (m cx : Nat) (news : List Value) (hl : news.length = Nat.min m l * i.size) (hnews : ∀ j u, news[j]? = some u → w.cell? (a.add j) = some u) (h1 : ∀ u ∈ news, u.oneCell' = true)
    (hfit : off + news.length ≤ cur.size) :
    (Builtin.copy_ #[t, u] ty #[.slice (some ⟨g, off, none⟩) l c, .slice (some a) m cx]).run P w =
      .ok (goInt (Nat.min m l)) (w.setRow g (putIn cur off news)) := by
  have hf := run_firstCells_some (P := P) w i.size (Nat.min m l) a m cx news hl hnews
  have hst := run_storeCells_at P g off T news 0 cur w hg (by simpa using hfit) h1
  simp only [Nat.add_zero] at hst
  simp [Builtin.copy_, run_underlying ht, sizeOf, typeInfo, hi, Builtin.lenOf, hf, hst, putIn]
/-- COPY -/
theorem snd_copy (hr : HRep B Z0 G h w) {hide : List Nat} {t u ty e : TypeId} {sz : Nat} {d x : Value} {pd px v : PV} {news : List PV} {ws ws' : List (Nat × Row)} (ht : P.underlying t = some (.slice e)) (hs : sizeA P e = some sz)
    (h0 : sz ≠ 0) (hvd : VRep G h w D d pd) (hvx : VRep G h w D x px) (hsrc : srcP (lkOf h hide) 0 px = some (news, ws)) (hcp : copyP (lkOf h hide) sz pd news ws = some (v, ws')) :
    Good P B Z0 G h w (do pure (.value (← Builtin.copy_ #[t, u] ty #[d, x]))) v ws' := by
  obtain ⟨i, hi, rfl⟩ := sizeA_some hs
  have hpos : 0 < i.size := by omega
  unfold copyP at hcp
  split at hcp
  case isFalse => cases hcp
  rename_i hszok
  obtain ⟨G1, V, mk, e1, e2, e3, e4, e5, e6, e7⟩ := snd_src hr (by decide) hvx hszok hsrc
  obtain ⟨⟨ax, cx, rfl, hax⟩, _⟩ := id e3
  cases pd <;> (try (simp at hcp; done))
  case nils =>
    simp only [Option.some.injEq, Prod.mk.injEq] at hcp
    obtain ⟨rfl, rfl⟩ := hcp
    obtain rfl := rep_nils hvd
    refine ⟨_, .int .i64 0, w, G1, by simp only [Sem.run_bind, run_copy_none t u ty e i ht hi none 0 0 ax news.length cx (by simp [Nat.min_def]), Result.andThen_ok, Sem.run_pure], .inl rfl, e1, e2, mk_int, Bl.refl _ _⟩
  case own k g gl s o l =>
    simp only at hcp
    split at hcp
    · rename_i g' sz1 ver fr es hlk
      split at hcp
      · rename_i hcond
        obtain ⟨rfl, hgl, rfl, rfl, rfl, hol, hdis⟩ := hcond
        have hdis' : k ∉ ws.map (·.1) := by simpa using hdis
        have hh := lk_some hlk (by simp)
        have hh1 := (e4 k hdis').trans hh
        have hk : k < (upd h ws).length := (List.getElem?_eq_some_iff.1 hh1).1
        have hupd : ∀ r, upd h (ws ++ [(k, r)]) = (upd h ws).set k r := fun r => by rw [upd_append]; rfl
        obtain ⟨vx', hsrc'⟩ := e3.take (l := l)
        have hn : (news.take l).length = Nat.min news.length l := by rw [List.length_take]; exact Nat.min_comm _ _
        split at hcp
        · rename_i hn0
          simp only [Option.some.injEq, Prod.mk.injEq] at hcp
          obtain ⟨rfl, rfl⟩ := hcp
          have hvd1 := hvd
          unfold D at hvd1; unfold VRep at hvd1
          obtain ⟨a, c, rfl, _⟩ := hvd1
          refine ⟨_, .int .i64 0, w, G1, by simp only [Sem.run_bind, run_copy_none t u ty e i ht hi a l c ax news.length cx (by rw [← hn]; exact hn0), Result.andThen_ok, Sem.run_pure], .inl rfl, e1, e2, mk_int, Bl.refl _ _⟩
        · rename_i hn0
          simp only [Option.some.injEq, Prod.mk.injEq] at hcp
          obtain ⟨rfl, rfl⟩ := hcp
          have hnle : (news.take l).length ≤ l := by simp; omega
          have hnle2 : (news.take l).length ≤ news.length := by simp; omega
          have hlenE : (es.take o ++ news.take l ++ es.drop (o + (news.take l).length)).length = es.length := by
            simp only [List.length_append, List.length_take (l := es), List.length_drop]; omega
          have hmk' : ∀ a t k2, (if a < (news.take l).length then mk a t else none) = some k2 → a < (news.take l).length ∧ k2 ≠ k ∧ (∃ g2, (upd h ws)[k2]? = some (g2, .dead)) ∧ (G1.R (root k2) → ¬ G1.Z (G1.β (root k2))) := fun a t k2 hm => by
            split at hm
            · rename_i hlt
              obtain ⟨p1, p2, p3, p4⟩ := e5 a t k2 hm
              exact ⟨hlt, fun e => hdis' (e ▸ p2), p3, p4⟩
            · cases hm
          have hinj' : ∀ a t a' t' k2, (if a < (news.take l).length then mk a t else none) = some k2 → (if a' < (news.take l).length then mk a' t' else none) = some k2 → a = a' ∧ t = t' := fun a t a' t' k2 h1 h2 => by
            split at h1
            · split at h2
              · exact e6 _ _ _ _ _ h1 h2
              · cases h2
            · cases h1
          have hvd1 := hvd.ext e2
          unfold D at hvd1; unfold VRep at hvd1
          obtain ⟨a, c, rfl, q1, q2, q3, gn, ob, q4, q5, q6⟩ := hvd1
          rw [hh1] at q4; cases q4
          obtain ⟨_, q7⟩ := q6 rfl _ _ _ _ rfl
          obtain ⟨_, q8, q9⟩ := q7 hgl
          have hob := e1.ob k _ _ hh1
          unfold ORep at hob
          obtain ⟨o1, o2, o3, o4, o5⟩ := hob
          have hR : G1.R (root k) := Classical.byContradiction fun hn' => by
            have := o5 hn'; subst this; simp at hgl; omega
          obtain ⟨us, T, o6, o7, o8⟩ := o4 hR
          obtain ⟨f, rfl, q10, q11, q12⟩ := q8 hR
          have hf : f = o * i.size := by
            rcases q10 with q10 | q10
            · omega
            · exact q10 rfl
          subst hf
          obtain ⟨b, fx, rfl, hV⟩ := hax.resolve_left (by omega)
          have hVl := newC_len V ((news.take l).length * i.size)
          have hfit : o * i.size + (newC V ((news.take l).length * i.size)).length ≤ us.size := by
            rw [hVl, o7, ← Nat.add_mul]; exact Nat.mul_le_mul_right _ (by omega)
          have hrun := run_copy_some (P := P) (w := w) t u ty e i ht hi T (G1.β (root k)) (o * i.size) l c us o6 ⟨b, fx, none⟩ news.length cx (newC V ((news.take l).length * i.size)) (by rw [hVl, hn]) (fun j u hj => by
            have hj' : j < (news.take l).length * i.size := by rw [← hVl]; exact (List.getElem?_eq_some_iff.1 hj).1
            rw [newC_get hj'] at hj; cases hj
            rw [Addr.add_lit]; exact hV j (Nat.lt_of_lt_of_le hj' (Nat.mul_le_mul_right _ hnle2))) (fun u hu => by
              obtain ⟨q, hq, rfl⟩ := List.mem_map.1 hu
              exact src_one hpos e3.cells (Nat.lt_of_lt_of_le (by simpa using hq) (Nat.mul_le_mul_right _ hnle2))) hfit
          rw [← hn] at hrun
          obtain ⟨G2, d1, d2, d3, d4, d5⟩ := dest_append (ver' := ver + 1) (γ0 := G1.γ (root k)) (b := G1.β (root k)) (l := o) (us := us) (T0 := T) (T := T) (us' := putIn us (o * i.size) (newC V ((news.take l).length * i.size))) (w' := w.setRow (G1.β (root k)) (putIn us (o * i.size) (newC V ((news.take l).length * i.size)))) e1 hh1 hsrc'.cells hmk' hinj' (by omega) (.inr rfl) (.inl ⟨hR, rfl, rfl⟩)
            (setRow_heap w _ us _ T (0, 0) o6) (fun x _ hx => setRow_other w _ _ _ hx) (by simp) (by rw [putIn_size hfit]; exact o7) (by rw [hlenE]; omega) o3 (fun _ => o6)
            (fun q hq => by rw [putIn_get hfit, if_pos (by rw [hVl]; omega), show o * i.size + q - o * i.size = q by omega]; exact newC_get hq)
            (fun a j hj ha hna => by
              rw [putIn_get hfit, if_neg ?_]
              rw [hVl]
              rintro ⟨z1, z2⟩
              by_cases hal : a < o
              · have : (a + 1) * i.size ≤ o * i.size := Nat.mul_le_mul_right _ (by omega)
                rw [Nat.add_mul] at this; omega
              · have : (o + (news.take l).length) * i.size ≤ a * i.size := Nat.mul_le_mul_right _ (by omega)
                rw [Nat.add_mul] at this; omega)
          refine ⟨_, .int .i64 ((news.take l).length : Nat), _, G2, by simp only [Sem.run_bind, hrun, Result.andThen_ok, Sem.run_pure]; rfl, .inl rfl, by rw [hupd]; exact d1, by rw [hupd]; exact e2.trans d2, mk_int, below_row (Bl.refl _ _) (e1.lv _ hR).1 _ (by assumption)⟩
      · cases hcp
    · cases hcp
end
end Go.Proofs.Ytgdcogoacnghkaa.Am
/-
  .. arrays in variables, bytes as strings, structs compared.
-/
namespace Go.Proofs.Ytgdcogoacnghkaa.Am
set_option linter.unusedSimpArgs false
set_option linter.unusedVariables false
set_option linter.unusedSectionVars false
open Go.RowKit
section
variable {P : Program} {B : Nat} {Z0 : Nat → Prop} {G : Gh} {h : Heap} {w : World}
theorem pure_cells {c : PV} (hp : pureC c = true) : ecells c = [c] := by cases c <;> first | rfl | (simp [pureC] at hp)
theorem pure_cell {c x : PV} {j : Nat} (hp : pureC c = true) (hx : (ecells c)[j]? = some x) : j = 0 ∧ x = c := by
  rw [pure_cells hp] at hx
  cases j with
  | zero => exact ⟨rfl, by simpa using hx.symm⟩
  | succ j => simp at hx
theorem pure_crep {k i j : Nat} {u : Value} {c : PV} (hp : pureC c = true) (hv : VRep G h w D u c) : CRep G h w k i j u c := by
  cases c <;> first | (simp [pureC] at hp; done) | (unfold CRep; exact ⟨rfl, hv⟩)
theorem crep_pure {k i j : Nat} {u : Value} {c : PV} (hp : pureC c = true) (hv : CRep G h w k i j u c) : VRep G h w D u c := by
  cases c <;> first | (simp [pureC] at hp; done) | (unfold CRep at hv; exact hv.2)
theorem all_get {es : List PV} (hp : es.all pureC = true) {i : Nat} {e : PV} (he : es[i]? = some e) : pureC e = true := List.all_eq_true.1 hp e (List.mem_of_getElem? he)
/-- an array in a variable -/
theorem good_arrA (hr : HRep B Z0 G h w) {hide : List Nat} {k : Nat} (hk : k < h.length ∧ hide.contains k = false) {us : Array Value} {T : TypeId} {cs : List PV} (hu : LRep (fun v c => one c = true ∧ VRep G h w D v c) us cs)
    (hp : cs.all pureC = true) (h0 : 0 < cs.length) (hm : cs.length ≤ 1000000) {s : Sem Next} (hs : s.run P w = .ok (.value (.pointer (some ⟨w.heap.size, 0, none⟩))) (w.alloc (.cells us T))) :
    Good P B Z0 G h w s (.eptr k ((lkOf h hide k).1 + 1) cs.length 1 0 0) [(k, ((lkOf h hide k).1 + 1, .arr 1 0 false cs))] := by
  obtain ⟨⟨g, old⟩, hh⟩ : ∃ r, h[k]? = some r := ⟨_, List.getElem?_eq_getElem hk.1⟩
  rw [lk_gen hk.2 hh]
  have hβ : (G.put k w.heap.size cs.length).β (root k) = w.heap.size := by simp [Gh.put]
  have hγ : (G.put k w.heap.size cs.length).γ (root k) = cs.length := by simp [Gh.put]
  have hR : (G.put k w.heap.size cs.length).R (root k) := by simp [Gh.put]
  obtain ⟨h1, h2⟩ := alloc_obj (w' := w.alloc (.cells us T)) (o' := .arr 1 0 false cs) hr hh (ob := .cells us T) rfl cs.length rfl (fun e => by cases e) (fun x => by
    unfold ORep
    rw [hβ, hγ]
    refine ⟨by omega, Nat.le_refl _, by unfold maxLen; omega, fun _ => ⟨us, T, heap_alloc_new w _, by rw [hu.1]; omega, fun i e he => ?_⟩, fun hn => absurd hR hn⟩
    have hpe := all_get hp he
    refine ⟨by rw [pure_cells hpe]; rfl, fun j c hc => ?_⟩
    obtain ⟨rfl, rfl⟩ := pure_cell hpe hc
    obtain ⟨u, h6, h7, h8⟩ := hu.2 i c he
    exact ⟨u, by rw [Nat.mul_one, Nat.add_zero]; exact h6, pure_crep hpe (h8.ext x)⟩)
  refine ⟨_, _, _, _, hs, .inl rfl, h1, h2, ?_, below_push hr _⟩
  unfold D; unfold VRep
  refine ⟨_, _, rfl, g + 1, .arr 1 0 false cs, List.getElem?_set_self hk.1, Nat.le_refl _, fun _ sz ver fr es e => ?_⟩
  cases e
  exact ⟨Nat.le_refl _, fun _ => ⟨hβ.symm, fun _ => rfl, h0⟩⟩
theorem snd_allocA (hr : HRep B Z0 G h w) {hide : List Nat} {k : Nat} (hk : k < h.length ∧ hide.contains k = false) {t : TypeId} {z : PV} (hz : zeroA P t = some z) (hp : (ecells z).all pureC = true) (h0 : 0 < (ecells z).length) (hm : (ecells z).length ≤ 1000000) :
    Good P B Z0 G h w (do pure (.value (← Instr.alloc t true (.tuple #[])))) (.eptr k ((lkOf h hide k).1 + 1) (ecells z).length 1 0 0) [(k, ((lkOf h hide k).1 + 1, .arr 1 0 false (ecells z)))] := by
  obtain ⟨i, v, h1, h2, h3⟩ := zeroA_some hz
  refine good_arrA hr hk (T := t) (us := v.cells) (lrep_one h3) hp h0 hm ?_
  simp [Instr.alloc, run_zero h1 h2, newVar, newRow]
theorem snd_boxA (hr : HRep B Z0 G h w) {hide : List Nat} {k : Nat} (hk : k < h.length ∧ hide.contains k = false) {t : TypeId} {v : Value} {p : PV} (hv : VRep G h w D v p) (hp : (ecells p).all pureC = true) (h0 : 0 < (ecells p).length) (hm : (ecells p).length ≤ 1000000) :
    Good P B Z0 G h w (do pure (.value (← Instr.box t v))) (.eptr k ((lkOf h hide k).1 + 1) (ecells p).length 1 0 0) [(k, ((lkOf h hide k).1 + 1, .arr 1 0 false (ecells p)))] := by
  refine good_arrA hr hk (T := t) (us := v.cells) (vcells hv (List.all_eq_true.2 fun c hc => pure_one (List.all_eq_true.1 hp c hc))) hp h0 hm ?_
  simp [Instr.box, newVar, newRow]
theorem snd_idxAA {v : Value} {p q : PV} {sz m : Nat} (hv : VRep G h w D v p) (hk : idxAA sz p m = some q) : ∃ b o, v = .pointer (some ⟨b, o, none⟩) ∧ VRep G h w D (.pointer (some ⟨b, o + m * sz, none⟩)) q := by
  cases p <;> simp only [idxAA] at hk <;> (try exact snd_addrOff hv hk)
  case eptr k g gl s i j =>
    split at hk
    · rename_i hc
      obtain ⟨rfl, rfl, hlt⟩ := hc
      simp only [Option.some.injEq] at hk; subst hk
      unfold D at hv ⊢; unfold VRep at hv ⊢
      obtain ⟨b, f, rfl, gn, ob, h1, h2, h3⟩ := hv
      refine ⟨b, f, rfl, b, f + m * s, rfl, gn, ob, h1, h2, fun e sz ver fr es e2 => ?_⟩
      obtain ⟨h4, h5⟩ := h3 e sz ver fr es e2
      refine ⟨h4, fun e3 => ?_⟩
      obtain ⟨h6, h7, h8⟩ := h5 e3
      exact ⟨h6, fun e4 => by rw [h7 e4, Nat.add_mul]; omega, by omega⟩
    · exact snd_addrOff hv hk
theorem snd_loadAP (hr : HRep B Z0 G h w) {hide : List Nat} {t : TypeId} {n : Nat} {v : Value} {p r : PV} (hi : infoA P t = some true) (hs : sizeA P t = some n) (hv : VRep G h w D v p) (hk : loadAP (lkOf h hide) n p = some r) :
    ∃ u, (Instr.loadAt t v).run P w = .ok u w ∧ VRep G h w D u r := by
  cases p <;> simp only [loadAP] at hk <;> (try exact snd_loadP hr hi hs hv hk)
  case eptr k g gl s i j =>
    split at hk
    · rename_i hc
      obtain ⟨rfl, rfl, rfl, rfl⟩ := hc
      split at hk
      · rename_i g' sz ver fr es hlk
        split at hk
        · rename_i hc2
          obtain ⟨rfl, hgl, rfl, hp⟩ := hc2
          cases hk
          have hh := lk_some hlk (by simp)
          unfold D at hv; unfold VRep at hv
          obtain ⟨b, f, rfl, gn, ob, h1, h2, h3⟩ := hv
          rw [hh] at h1; cases h1
          obtain ⟨_, h3⟩ := h3 rfl _ _ _ _ rfl
          obtain ⟨rfl, h4, h0⟩ := h3 hgl
          have hf : f = 0 := by simpa using h4 rfl
          subst hf
          have hcs : CSeg (fun _ v c => one c = true ∧ VRep G h w D v c) w (G.β (root k)) 0 es := fun j c hc => by
            obtain ⟨_, us, T, h5, _, _, h8⟩ := ob_at hr hh hc
            have hpc := all_get hp hc
            obtain ⟨u, h9, h10⟩ := h8 0 c (by rw [pure_cells hpc]; rfl)
            refine ⟨u, by rw [block_cell h5, Nat.zero_add]; simpa using h9, pure_one hpc, crep_pure hpc h10⟩
          obtain ⟨u, h6, _, h8⟩ := snd_load (P := P) (off := 0) hi hs hcs (show takeE true gl es 0 = some (.agg ((es.drop 0).take gl)) by simp [takeE, hgl])
          refine ⟨u, h6, ?_⟩
          obtain ⟨vs, rfl, e1, h9, h10⟩ := h8 rfl
          have e2 : (es.drop 0).take gl = es := by rw [List.drop_zero]; exact List.take_of_length_le (by omega)
          rw [e2] at h9 h10
          exact agg_of (o := 0) (R := fun _ v c => one c = true ∧ VRep G h w D v c) h10 h9 fun _ _ _ _ x => x
        · cases hk
      · cases hk
    · exact snd_loadP hr hi hs hv hk
theorem snd_storeAP (hr : HRep B Z0 G h w) {hide : List Nat} {t : TypeId} {n : Nat} {a v : Value} {pa pv : PV} {ws : List (Nat × Row)} (hs : sizeA P t = some n) (h0 : n ≠ 0) (ha : VRep G h w D a pa) (hv : VRep G h w D v pv)
    (hk : storeAP (lkOf h hide) n pa pv = some ws) : Good P B Z0 G h w (do Instr.storeAt t a v; pure .skip) .undef ws := by
  cases pa <;> simp only [storeAP] at hk <;> (try exact snd_storeP hr hs h0 ha hv hk)
  case eptr k g gl s i j =>
    split at hk
    · rename_i hc
      obtain ⟨rfl, rfl, rfl, rfl⟩ := hc
      cases pv <;> (try (cases hk; done))
      rename_i cs
      simp only [] at hk
      split at hk
      · rename_i g' sz ver fr es hlk
        split at hk
        · rename_i hc2
          obtain ⟨rfl, hgl, rfl, rfl, hp, hcl, hpc⟩ := hc2
          simp only [Option.some.injEq] at hk
          subst hk
          have hh := lk_some hlk (by simp)
          unfold D at ha; unfold VRep at ha
          obtain ⟨b, f, rfl, gn, ob, h1, h2, h3⟩ := ha
          rw [hh] at h1; cases h1
          obtain ⟨_, h3⟩ := h3 rfl _ _ _ _ rfl
          obtain ⟨rfl, h4, h0⟩ := h3 hgl
          have hf : f = 0 := by simpa using h4 rfl
          subst hf
          obtain ⟨e0, he0⟩ : ∃ e, es[0]? = some e := ⟨es[0], List.getElem?_eq_getElem (by omega)⟩
          obtain ⟨hR, us, T, h5, h6, _, _⟩ := ob_at hr hh he0
          have hob := hr.ob k _ _ hh
          unfold ORep at hob
          have hvc := vcells hv (p := .agg cs) (List.all_eq_true.2 fun c hc => pure_one (List.all_eq_true.1 hpc c hc))
          have hvs : v.cells.size = gl := by rw [hvc.1]; exact hcl
          have hroom : 0 + v.cells.toList.length ≤ us.size := by rw [h6]; have := hob.2.1; simp [hvs]; omega
          have hrun := run_store_at (P := P) (o := 0) hs hvs (lrep_cells (fun u c y => oneCell_of y.1 y.2) hvc) h5 (by simpa [hvs] using hroom)
          obtain ⟨x1, x2⟩ := dest_update (w' := w.setRow (G.β (root k)) (putIn us 0 v.cells.toList)) (ver' := ver) (es' := cs) (γ0 := G.γ (root k)) (b := G.β (root k)) (mk := fun _ _ => none) hr hh (.inl ⟨hR, rfl, rfl⟩) (setRow_heap w _ us _ T (0, 0) h5) (fun x _ hx => setRow_other w _ _ _ hx) (by simp)
            (fun _ _ _ e => absurd e (by simp)) (fun _ _ _ _ _ e => absurd e (by simp)) (by rw [putIn_size hroom]; exact h6) (by have := hob.2.1; omega) hob.2.2.1 (by omega) (Nat.le_refl _)
            (fun _ i j ns hc => by
              exfalso
              unfold cellAt at hc
              cases hei : es[i]? with
              | none => rw [hei] at hc; simp at hc
              | some e =>
                rw [hei] at hc
                have hpe := all_get hp hei
                have hc' : (ecells e)[j]? = some (.uslc ns) := by simpa using hc
                obtain ⟨_, rfl⟩ := pure_cell hpe hc'
                simp [pureC] at hpe)
            (fun i e he => by
              have hpe := all_get hpc he
              refine ⟨by rw [pure_cells hpe]; rfl, fun j c hc => ?_⟩
              obtain ⟨rfl, rfl⟩ := pure_cell hpe hc
              have hil : i < cs.length := (List.getElem?_eq_some_iff.1 he).1
              obtain ⟨u, g1, g2, g3⟩ := hvc.2 i c he
              refine ⟨u, ?_, ?_⟩
              · rw [putIn_get hroom, if_pos (by simp [hvs]; omega)]
                simpa using g1
              · unfold CellOr; exact pure_crep hpe g3)
          exact ⟨.skip, undef, _, _, by simp [hrun], .inr ⟨rfl, rfl⟩, x1, x2, mk_undef, below_row (Bl.refl _ _) (hr.lv _ hR).1 _ (by assumption)⟩
        · cases hk
      · cases hk
    · exact snd_storeP hr hs h0 ha hv hk
theorem arrN_some {t : TypeId} {n : Nat} (hk : arrN P t = some n) : ∃ e, P.underlying t = some (.array n e) ∧ sizeA P e = some 1 ∧ n ≠ 0 := by
  unfold arrN at hk
  split at hk
  · rename_i m e hu
    split at hk
    · rename_i hc
      cases hk
      exact ⟨e, hu, hc.1, hc.2⟩
    · cases hk
  · cases hk
theorem snd_sliceAP (hr : HRep B Z0 G h w) {t : TypeId} {n : Nat} {v : Value} {p q : PV} {lo hi : Option Value} {plo phi : Option PV} (ht : arrN P t = some n) (hv : VRep G h w D v p)
    (h1 : OV G h w lo plo) (h2 : OV G h w hi phi) (hk : sliceAP n p plo phi = some q) : ∃ u, (Instr.sliceAt t v lo hi none).run P w = .ok u w ∧ VRep G h w D u q := by
  cases p <;> simp only [sliceAP] at hk <;> (try (cases hk; done))
  rename_i k g gl s i j
  split at hk
  · rename_i hc
    obtain ⟨rfl, rfl, rfl, rfl, hmx⟩ := hc
    split at hk
    · rename_i l u hb
      cases hk
      obtain ⟨e, hu, hz, hn0⟩ := arrN_some ht
      obtain ⟨ie, hie, hsz⟩ := sizeA_some hz
      obtain ⟨hb, b1, b2⟩ := run_sliceBounds (P := P) (isS := false) (mx := none) (pmx := none) (Nat.le_refl gl) h1 h2 trivial hb
      unfold D at hv; unfold VRep at hv
      obtain ⟨b, f, rfl, gn, ob, q4, q5, q6⟩ := hv
      refine ⟨.slice (some (if gl = l then ⟨b, f, none⟩ else ⟨b, f + l, none⟩)) (u - l) (gl - l), ?_, ?_⟩
      · simp [Instr.sliceAt, run_underlying hu, Instr.sureAddr, hb, sizeOf, typeInfo, hie, hsz, Addr.add_lit]
      · unfold D; unfold VRep
        refine ⟨_, _, rfl, by omega, by unfold maxLen; omega, .inr ?_, gn, ob, q4, q5, fun e1 sz ver fr es e2 => ?_⟩
        · split
          · exact ⟨_, _, rfl⟩
          · exact ⟨_, _, rfl⟩
        · obtain ⟨h7, h8⟩ := q6 e1 sz ver fr es e2
          refine ⟨h7, fun e3 => ?_⟩
          obtain ⟨h9, h10, h11⟩ := h8 e3
          subst e2
          have hob := hr.ob k _ _ q4
          unfold ORep at hob
          obtain ⟨_, o2, _, _, o5⟩ := hob
          refine ⟨by omega, fun hR => ?_, fun hR => ?_⟩
          · by_cases hl : gl = l
            · exact ⟨f, by rw [if_pos hl, h9], .inl (by omega), by omega, by omega⟩
            · exact ⟨f + l, by rw [if_neg hl, h9], .inr (fun e5 => by have := h10 e5; omega), by omega, by omega⟩
          · have := o5 hR; subst this; simp at e3; omega
    · cases hk
  · cases hk
/-! structs compared -/
theorem snd_eqC {a b : Value} {x y : PV} {r : Bool} {t : TypeId} {k : Nat} (d : Nat) (ht : kindT P t = some k) (ha : VRep G h w D a x) (hb : VRep G h w D b y) (hk : eqC k x y = some r) : (Op.equalIn (d + 1) t a b).run P w = .ok r w := by
  unfold kindT at ht
  cases x <;> cases y <;> simp only [eqC] at hk <;> (try (cases hk; done)) <;> split at hk <;> (try (cases hk; done))
  case bool.bool i j hk0 =>
    subst hk0
    cases hk
    obtain rfl := rep_bool ha; obtain rfl := rep_bool hb
    split at ht <;> first | (cases ht; done) | (rename_i hu; exact run_equalIn_bool' w d t i j hu) | (simp at ht)
  case int.int k1 i k2 j hk0 =>
    obtain ⟨rfl, rfl⟩ := hk0
    cases hk
    obtain rfl := rep_int ha; obtain rfl := rep_int hb
    split at ht <;> first | (cases ht; done) | (rename_i hu; exact run_equalIn_int w d t _ _ i j hu) | (simp at ht)
  case str.str i j hk0 =>
    subst hk0
    cases hk
    obtain rfl := rep_str ha; obtain rfl := rep_str hb
    split at ht <;> first | (cases ht; done) | (rename_i hu; exact run_equalIn_string w d t i j hu) | (simp at ht)
theorem kind_info {t : TypeId} {k : Nat} (ht : kindT P t = some k) : infoA P t = some false := by
  unfold kindT at ht
  unfold infoA
  split at ht <;> first | (rename_i hu; rw [hu]) | (cases ht)
theorem run_part1 {t : TypeId} {k i : Nat} {vs : Array Value} {u : Value} (ht : kindT P t = some k) (hs : sizeA P t = some 1) (hu : vs[i]? = some u) : (part t vs i).run P w = .ok u w := by
  obtain ⟨ie, hie, hsz⟩ := sizeA_some hs
  have hi := kind_info ht
  have ha : (isAgg t).run P w = .ok false w := by
    unfold infoA at hi
    unfold isAgg
    split at hi
    · cases hi
    · cases hi
    · rename_i d h1 h2 hud
      simp only [Sem.run_bind, run_underlying hud, Result.andThen_ok]
      cases d <;> first | rfl | exact absurd rfl (h1 _) | exact absurd rfl (h2 _ _)
    · cases hi
  unfold part
  simp [ha, hu, sizeOf, typeInfo, hie, hsz]
theorem eqFields_sound {xs ys : Array Value} {l m : List PV} (hx : LRep (VRep G h w 5) xs l) (hy : LRep (VRep G h w 5) ys m) (d : Nat) : ∀ (fs : List Field) (i : Nat) (ts : List Nat) (r : Bool), flatF P i fs = some ts → eqCs ts (l.drop i) (m.drop i) = some r → (Op.eqFields (d + 1) xs ys fs).run P w = .ok r w
  | [], i, ts, r, hf, he => by
    cases hf
    cases hl : l.drop i <;> cases hm : m.drop i <;> rw [hl, hm] at he <;> simp only [eqCs] at he <;> first | (cases he; done) | skip
    cases he
    simp [Op.eqFields]
  | f :: fs, i, ts, r, hf, he => by
    simp only [flatF] at hf
    split at hf
    · rename_i hc
      obtain ⟨c1, c2, c3⟩ := hc
      split at hf
      · rename_i k ts' hk hts
        cases hf
        cases hl : l.drop i with
        | nil => rw [hl] at he; simp [eqCs] at he
        | cons a l' =>
          cases hm : m.drop i with
          | nil => rw [hl, hm] at he; simp [eqCs] at he
          | cons b m' =>
            rw [hl, hm] at he
            simp only [eqCs] at he
            split at he
            · rename_i x y h1 h2
              cases he
              have hla : l[i]? = some a := by have := congrArg List.head? hl; rw [List.head?_drop] at this; exact this
              have hmb : m[i]? = some b := by have := congrArg List.head? hm; rw [List.head?_drop] at this; exact this
              obtain ⟨u, p1, p2⟩ := hx.2 i a hla
              obtain ⟨v, q1, q2⟩ := hy.2 i b hmb
              have e1 := run_part1 (w := w) hk c3 p1
              have e2 := run_part1 (w := w) hk c3 q1
              have e3 := snd_eqC (w := w) d hk p2.up q2.up h1
              have hl' : l.drop (i + 1) = l' := by rw [← List.tail_drop, hl]; rfl
              have hm' : m.drop (i + 1) = m' := by rw [← List.tail_drop, hm]; rfl
              have ih := eqFields_sound hx hy d fs (i + 1) ts' y hts (by rw [hl', hm']; exact h2)
              simp only [Op.eqFields, if_pos c1, Sem.run_bind, c2, e1, e2, e3, Result.andThen_ok]
              cases x
              · simp
              · simp [ih]
            · cases he
      · cases hf
    · cases hf
theorem snd_eqS {op : BinOp} {t : TypeId} {x y : Operand} {a b : Value} {l m : List PV} {ts : List Nat} {r : Bool} (ho : op = .eql ∨ op = .neq) (ht : flatS P t = some ts) (ha : VRep G h w D a (.agg l)) (hb : VRep G h w D b (.agg m)) (hk : eqCs ts l m = some r) :
    ∃ v, (do eqGuard op t x y a b; Go.binOp op t a b : Sem Value).run P w = .ok v w ∧ VRep G h w D v (.bool ((op == .neq) != r)) := by
  obtain ⟨xs, rfl, hx⟩ := rep_agg ha
  obtain ⟨ys, rfl, hy⟩ := rep_agg hb
  unfold flatS at ht
  split at ht
  · rename_i fs hu
    split at ht
    · rename_i hc
      have hfo : P.fieldsOf t = fs := by unfold Program.fieldsOf; rw [hu]
      have hg := run_eqGuard_agg w op t x y xs ys hc.2
      have he : (Op.equalIn 10000 t (.agg xs) (.agg ys)).run P w = .ok r w := by
        rw [run_equalIn_agg w 9999 t xs ys (by rw [hfo]; exact hu) hc.1, hfo]
        exact eqFields_sound hx hy 9998 fs.toList 0 ts r ht (by simpa using hk)
      rcases ho with rfl | rfl
      · refine ⟨.bool r, ?_, by rw [show ((BinOp.eql == BinOp.neq) != r) = r by cases r <;> rfl]; exact mk_bool⟩
        simp only [Sem.run_bind, hg, Result.andThen_ok, run_eql_struct, he]
      · refine ⟨.bool (!r), ?_, by rw [show ((BinOp.neq == BinOp.neq) != r) = !r by cases r <;> rfl]; exact mk_bool⟩
        simp only [Sem.run_bind, hg, Result.andThen_ok, run_neq_struct, he]
    · cases ht
  · cases ht
/-! bytes as a string -/
theorem bytesL_spec : ∀ {cs : List PV} {bs : List UInt8}, bytesL cs = some bs → ∃ ns : List Int, cs = ns.map (.int .u8) ∧ bs = ns.map fun n => UInt8.ofNat n.toNat
  | [], bs, hk => by cases hk; exact ⟨[], rfl, rfl⟩
  | c :: cs, bs, hk => by
    simp only [bytesL] at hk
    split at hk
    · rename_i b bs' h1 h2
      cases hk
      obtain ⟨ns, rfl, rfl⟩ := bytesL_spec h2
      unfold byte? at h1
      split at h1
      · split at h1
        · rename_i hk; subst hk; cases h1
          exact ⟨_ :: ns, rfl, rfl⟩
        · cases h1
      · cases h1
    · cases hk
theorem push_bytes (ns : List Int) : ∀ s : ByteArray, ns.foldl (fun r n => r.push (UInt8.ofNat n.toNat)) s = ⟨⟨s.data.toList ++ ns.map fun n => UInt8.ofNat n.toNat⟩⟩ := by
  induction ns with
  | nil => intro s; simp
  | cons n ns ih =>
    intro s
    rw [List.foldl_cons, ih]
    simp [ByteArray.push]
theorem snd_convStr (hr : HRep B Z0 G h w) {hide : List Nat} {src dst e : TypeId} {v : Value} {p : PV} {news : List PV} {ws : List (Nat × Row)} {bs : List UInt8} (hs : P.underlying src = some (.slice e)) (he : P.underlying e = some (.int .u8)) (hd : P.underlying dst = some .string)
    (hv : VRep G h w D v p) (hk : srcP (lkOf h hide) 2 p = some (news, ws)) (hb : bytesL news = some bs) : ∃ u, (convert src dst v).run P w = .ok u w ∧ VRep G h w D u (.str ⟨⟨bs⟩⟩) := by
  obtain ⟨ns, rfl, rfl⟩ := bytesL_spec hb
  have hz : szOk 1 (ns.map (PV.int .u8)) = true := List.all_eq_true.2 fun x hx => by obtain ⟨n, _, rfl⟩ := List.mem_map.1 hx; rfl
  obtain ⟨G1, V, mk, _, _, hsrc, _, hmk, _⟩ := snd_src hr (by decide) hv hz hk
  obtain ⟨⟨a, c, rfl, ha⟩, hcells⟩ := hsrc
  refine ⟨.string ⟨⟨ns.map fun n => UInt8.ofNat n.toNat⟩⟩, ?_, mk_str⟩
  have hconv : (convert src dst (.slice a (ns.map (PV.int .u8)).length c)).run P w = (Conv.bytesToString (.slice a (ns.map (PV.int .u8)).length c)).run P w := run_convert_bytes_string w src dst e a _ c hs he hd
  rw [hconv]
  cases a with
  | none =>
    rcases ha with ha | ⟨b, f, ha, _⟩
    · have : ns = [] := by simpa using ha
      subst this
      simp [Conv.bytesToString]; rfl
    · cases ha
  | some a =>
    have hl : (loadCells a (ns.map (PV.int .u8)).length).run P w = .ok (ns.map (Value.int .u8)).toArray w := by
      rcases ha with ha | ⟨b, f, ha, hcell⟩
      · have : ns = [] := by simpa using ha
        subst this
        simp [loadCells, loadCellsFrom]
      · cases ha
        have := run_loadCells (P := P) w ⟨b, f, none⟩ (ns.map (PV.int .u8)).length (fun j => V j) (fun j hj => by rw [Addr.add_lit]; exact hcell j (by simpa using hj))
        rw [this]
        congr 2
        refine List.ext_getElem (by simp) fun i h1 h2 => ?_
        simp only [List.getElem_map, List.getElem_range]
        have hi : i < ns.length := by simpa using h2
        obtain ⟨_, hq⟩ := hcells i (PV.int .u8 ns[i]) (by simp [hi])
        have hq := hq 0 (.int .u8 ns[i]) rfl
        have hm : mk i 0 = none := by
          cases hm : mk i 0 with
          | none => rfl
          | some k2 =>
            exfalso
            rw [hm] at hq
            obtain ⟨ns', e1, _⟩ := hq
            cases e1
        rw [hm] at hq
        have := rep_int hq.2
        simpa using this
    rw [run_bytesToString w a _ c ns hl, push_bytes]
    rfl
/-! lists written out whose elements are the call's own slices -/
theorem lst_erep {u : Value} {c : PV} (hl : lstC c = true) (hv : VRep G h w D u c) : ERep G h w u c := by
  cases c <;> first | (simp [lstC, pureC] at hl; done) | skip
  case own => exact (erep_own (n := D)).2 hv
  case slc => unfold ERep; exact rep_slc hv
  case nils => unfold ERep; exact rep_nils hv
  all_goals (unfold D at hv; unfold VRep at hv; unfold ERep; exact hv)
theorem lst_cells {c : PV} (hl : lstC c = true) : ecells c = [c] := by cases c <;> first | rfl | (simp [lstC, pureC] at hl)
theorem snd_lst (hr : HRep B Z0 G h w) {n : Nat} {t e : TypeId} {z : PV} {parts : Array (Nat × Value)} {xs : List (Nat × PV)} {es : List PV} (hu : elemA P t = some e) (hs : sizeA P e = some 1) (hz : zeroA P e = some z)
    (hn : n * 1 ≤ 16777216) (hzl : (ecells z).length = 1) (hp : PartsI G h w parts.toList xs) (hm : mkarrP 1 (List.replicate n z) xs = some es) (hl : es.all lstC = true) :
    Good P B Z0 G h w (do pure (.value (← Instr.buildSlice t n parts))) (.lst es) [] := by
  obtain ⟨A', hrun, h5, hlen, hbound⟩ := run_buildSlice (P := P) hu hs hz (by omega) hn hzl hp hm
  obtain ⟨p1, p2⟩ := push_frozen hr (.cells A' e) ⟨_, _, _, rfl⟩
  refine ⟨.value (.slice (some ⟨w.heap.size, 0, none⟩) n n), _, w.alloc (.cells A' e), _, by simp [hrun], .inl rfl, p1, p2, ?_, below_push hr _⟩
  unfold D; unfold VRep
  refine ⟨_, n, by rw [hlen], by omega, by unfold maxLen; omega, fun i x hx => ?_⟩
  obtain ⟨g1, g2⟩ := h5.2 i x hx
  have hlx := List.all_eq_true.1 hl x (List.mem_of_getElem? hx)
  obtain ⟨_, u, g3, g4⟩ := g2 0 x (by rw [lst_cells hlx]; rfl)
  refine ⟨_, _, u, rfl, .inr rfl, ?_, (lst_erep hlx g4).ext p2⟩
  rw [block_cell (heap_alloc_new w _), Nat.zero_add]; simpa using g3
/-! nil slices -/
theorem snd_eqNil {op : BinOp} {t e : TypeId} {x y : Operand} {v : Value} {p : PV} {r : Bool} (ho : op = .eql ∨ op = .neq) (hu : P.underlying t = some (.slice e)) (hv : VRep G h w D v p) (hk : nilP p = some r) :
    ∃ u, (do eqGuard op t x y v (.slice none 0 0); Go.binOp op t v (.slice none 0 0) : Sem Value).run P w = .ok u w ∧ VRep G h w D u (.bool ((op == .neq) != r)) := by
  have key : ∃ a l c, v = .slice a l c ∧ a.isNone = r := by
    cases p <;> simp only [nilP] at hk <;> (try (cases hk; done))
    case nils => cases hk; exact ⟨none, 0, 0, rep_nils hv, rfl⟩
    case lst es =>
      cases hk
      unfold D at hv; unfold VRep at hv
      obtain ⟨a, c, rfl, _⟩ := hv
      exact ⟨some a, _, c, rfl, rfl⟩
    case slc es =>
      split at hk
      · cases hk
      · rename_i hl
        cases hk
        obtain ⟨a, c, sz, rfl, h2, h3, h4, h5⟩ := PR.slc_iff.1 (rep_slc hv)
        cases a with
        | none => have := h4 rfl; omega
        | some a => exact ⟨some a, _, c, rfl, rfl⟩
    case own k g gl s o l =>
      split at hk
      · cases hk
      · cases hk
        unfold D at hv; unfold VRep at hv
        obtain ⟨a, c, rfl, q1, q2, q3, _⟩ := hv
        rcases q3 with ⟨rfl, rfl⟩ | ⟨b, f, rfl⟩
        · omega
        · exact ⟨some _, _, c, rfl, rfl⟩
    case nown k g ver i j o l =>
      split at hk
      · cases hk
      · cases hk
        unfold D at hv; unfold VRep at hv
        obtain ⟨a, c, rfl, q1, q2, q3, _⟩ := hv
        rcases q3 with ⟨rfl, rfl⟩ | ⟨b, f, rfl⟩
        · omega
        · exact ⟨some _, _, c, rfl, rfl⟩
  obtain ⟨a, l, c, rfl, rfl⟩ := key
  have he : (Op.equal t (.slice a l c) (.slice none 0 0)).run P w = .ok a.isNone w := by
    have hd : ∀ d : Nat, (Op.equalIn (d + 1) t (.slice a l c) (.slice none 0 0)).run P w = .ok a.isNone w := fun d => by
      cases a <;> simp [Op.equalIn, run_underlying hu]
    exact hd 9999
  rcases ho with rfl | rfl
  · refine ⟨.bool a.isNone, ?_, by rw [show ((BinOp.eql == BinOp.neq) != a.isNone) = a.isNone by cases a <;> rfl]; exact mk_bool⟩
    have hg : (eqGuard .eql t x y (.slice a l c) (.slice none 0 0)).run P w = .ok () w := by simp [eqGuard]
    simp only [Sem.run_bind, hg, Result.andThen_ok, Go.binOp, he, Sem.run_pure]
  · refine ⟨.bool (!a.isNone), ?_, by rw [show ((BinOp.neq == BinOp.neq) != a.isNone) = !a.isNone by cases a <;> rfl]; exact mk_bool⟩
    have hg : (eqGuard .neq t x y (.slice a l c) (.slice none 0 0)).run P w = .ok () w := by simp [eqGuard]
    simp only [Sem.run_bind, hg, Result.andThen_ok, Go.binOp, he, Sem.run_pure]
end
end Go.Proofs.Ytgdcogoacnghkaa.Am
/-
  .. a slice of the call's own read as frozen memory; what was appended to, frozen at once.
-/
namespace Go.Proofs.Ytgdcogoacnghkaa.Am
set_option linter.unusedSimpArgs false
set_option linter.unusedVariables false
set_option linter.unusedSectionVars false
open Go.RowKit
section
variable {P : Program} {B : Nat} {Z0 : Nat → Prop} {G G' : Gh} {h h' : Heap} {w w' : World}
theorem own_slc (hr : HRep B Z0 G h w) {Z' : Nat → Prop} (hz : ∀ b, G.Z b → Z' b) {k g gl s o l ver : Nat} {fr : Bool} {es : List PV} {v : Value} (hh : h[k]? = some (g, .arr s ver fr es)) (hgl : es.length = gl) (hol : o + l ≤ gl) (hp : es.all noRefE = true)
    (hk : ∀ y, G.R (k, y) → Z' (G.β (k, y))) (hv : VRep G h w D v (.own k g gl s o l)) : PR Z' w v (.slc (((es.drop o).take l).map frzE)) := by
  have hob := hr.ob k _ _ hh
  unfold ORep at hob
  obtain ⟨o1, o2, o3, o4, o5⟩ := hob
  unfold D at hv; unfold VRep at hv
  obtain ⟨a, c, rfl, q1, q2, q3, gn, ob, q4, q5, q6⟩ := hv
  rw [hh] at q4; cases q4
  obtain ⟨_, q7⟩ := q6 rfl _ _ _ _ rfl
  obtain ⟨_, q8, q9⟩ := q7 hgl
  have hlen : (((es.drop o).take l).map frzE).length = l := by simp; omega
  by_cases hl0 : l = 0
  · subst hl0
    refine PR.slc_iff.2 ⟨a, c, 0, by simp, by simp, q2, ?_, fun i e he => by simp at he⟩
    rcases q3 with ⟨_, h1⟩ | ⟨b, f, h1⟩
    · exact fun _ => h1
    · intro h2; rw [h1] at h2; cases h2
  · have hR : G.R (root k) := Classical.byContradiction fun hn => by
      have := o5 hn; subst this; simp at hgl; omega
    obtain ⟨us, T, o6, o7, o8⟩ := o4 hR
    obtain ⟨f, rfl, q10, _⟩ := q8 hR
    have hf : f = o * s := by
      rcases q10 with q10 | q10
      · omega
      · exact q10 rfl
    refine PR.slc_iff.2 ⟨some ⟨G.β (root k), f, none⟩, c, s, by rw [hlen], by rw [hlen]; exact q1, q2, fun e => absurd e (by simp), fun i e he => ?_⟩
    have hil : i < l := by rw [← hlen]; exact (List.getElem?_eq_some_iff.1 he).1
    rw [List.getElem?_map, List.getElem?_take, if_pos hil, List.getElem?_drop] at he
    obtain ⟨e0, he0, rfl⟩ := Option.map_eq_some_iff.1 he
    obtain ⟨o9, o10⟩ := o8 _ e0 he0
    rw [ecells_frz]
    refine ⟨by simpa using o9, _, _, rfl, hk none hR, fun j cc hc => ?_⟩
    rw [List.getElem?_map] at hc
    obtain ⟨c0, hc0, rfl⟩ := Option.map_eq_some_iff.1 hc
    obtain ⟨u, o11, o12⟩ := o10 j c0 hc0
    have hnr : (pureC c0 || isU c0) = true := List.all_eq_true.1 (show (ecells e0).all (fun c => pureC c || isU c) = true from List.all_eq_true.1 hp e0 (List.mem_of_getElem? he0)) c0 (List.mem_of_getElem? hc0)
    obtain ⟨o13, o14⟩ := crep_frz hz (fun hR' => hk _ hR') hnr o12
    refine ⟨o13, u, ?_, o14⟩
    rw [block_cell o6, hf, show o * s + (i * s + j) = (o + i) * s + j by rw [Nat.add_mul]; omega]; exact o11
theorem srcS_ws2 {lk : Look} {p : PV} {news : List PV} {ws : List (Nat × Row)} (h : srcS lk 2 p = some (news, ws)) : ws = [] := by
  cases p <;> simp only [srcS] at h <;> (try (cases h; done)) <;> (try (simp only [Option.some.injEq, Prod.mk.injEq] at h; exact h.2.symm))
  case lst es =>
    split at h
    · simp only [Option.some.injEq, Prod.mk.injEq] at h; exact h.2.symm
    · cases h
  case own k g gl s o l =>
    split at h
    · split at h
      · simp only [show ¬ (2 = 1) by omega, if_false] at h
        split at h
        · rename_i hc
          simp only [Option.some.injEq, Prod.mk.injEq] at h
          have := hc.2 (by first | rfl | trivial)
          rw [if_pos this] at h
          exact h.2.symm
        · cases h
      · cases h
    · cases h
  case nown k g ver i j o l =>
    (repeat' (split at h)) <;> (try (cases h; done))
    simp only [Option.some.injEq, Prod.mk.injEq] at h
    exact h.2.symm
theorem srcP_ws2 {lk : Look} {p : PV} {news : List PV} {ws : List (Nat × Row)} (h : srcP lk 2 p = some (news, ws)) : ws = [] := by
  exact srcS_ws2 (lk := lk) (p := p) (news := news) (by unfold srcP at h; rwa [if_neg (by decide)] at h)
theorem snd_frzA {s : Sem Next} {v p : PV} {sz : Nat} {ws' ws : List (Nat × Row)} (hg : Good P B Z0 G h w s v ([] ++ ws')) (ha : frzA sz v ws' = some (p, ws)) : Good P B Z0 G h w s p ws := by
  unfold frzA at ha
  split at ha
  case h_2 => cases ha
  rename_i k g gl s' o l k' g' sz' ver fr es
  split at ha
  case isFalse => cases ha
  rename_i hc
  obtain ⟨rfl, rfl, rfl, rfl, rfl, rfl, rfl, rfl, hp⟩ := hc
  simp only [Option.some.injEq, Prod.mk.injEq] at ha
  obtain ⟨rfl, rfl⟩ := ha
  obtain ⟨n, u, w1, G1, e1, e2, e3, e4, e5, e6⟩ := hg
  simp only [List.nil_append, upd, List.foldl_cons, List.foldl_nil] at e3 e4 e5
  have hkl : k' < h.length := by
    have hv := e5
    unfold D at hv; unfold VRep at hv
    obtain ⟨a, c, _, _, _, _, gn, ob, q4, _⟩ := hv
    have := (List.getElem?_eq_some_iff.1 q4).1
    simpa using this
  have hh : (h.set k' (g', Ob.arr sz' ver false es))[k']? = some (g', .arr sz' ver false es) := List.getElem?_set_self hkl
  obtain ⟨f1, f2⟩ := frz_whole e3 hh hp
  have hs := own_slc e3 (Z' := (G1.frz3 k').Z) (fun b hb => .inl hb) hh rfl (by omega) hp (fun y hR => .inr ⟨y, hR, rfl⟩) e5
  rw [List.drop_zero, List.take_length] at hs
  refine ⟨n, u, w1, G1.frz3 k', e1, e2, ?_, ?_, mk_slc hs, e6⟩
  · simp only [upd, List.foldl_cons, List.foldl_nil]; exact f1
  · simp only [upd, List.foldl_cons, List.foldl_nil]; exact e4.trans f2
end
end Go.Proofs.Ytgdcogoacnghkaa.Am
/-
  .. maps.
-/
namespace Go.Proofs.Ytgdcogoacnghkaa.Am
set_option linter.unusedSimpArgs false
set_option linter.unusedVariables false
set_option linter.unusedSectionVars false
open Go.RowKit Go.MapKept
section
variable {P : Program} {B : Nat} {Z0 : Nat → Prop} {G G' : Gh} {h h' : Heap} {w w' : World}
def tagD : TypeDesc → Nat
  | .bool => 0
  | .int _ => 1
  | .string => 2
  | _ => 3
theorem keyKind_some {t : TypeId} {n : Nat} (hk : keyKind P t = some n) : ∃ d, P.underlying t = some d ∧ tagD d = n ∧ n < 3 := by
  unfold keyKind at hk
  split at hk <;> cases hk <;> exact ⟨_, by assumption, rfl, by omega⟩
theorem run_ck {t : TypeId} {d : TypeDesc} (hd : P.underlying t = some d) (ht : tagD d < 3) (e : Bool) (n : Nat) (v : Value) : (Instr.checkKey e (n + 1) t v).run P w = .ok () w := by
  unfold Instr.checkKey
  simp only [Sem.run_bind, run_underlying hd, Result.andThen]
  cases d <;> simp [tagD] at ht <;> simp
theorem sameK_spec {d : TypeDesc} {x y : PV} {kx ky : Value} {b : Bool} (hx : keyV x = some kx) (hy : keyV y = some ky) (ht : tagD d = keyTag x) (hs : sameK x y = some b) : Instr.sameNow d kx ky = some b ∧ (b = true → ky = kx) := by
  cases x <;> simp [keyV] at hx <;> cases y <;> simp [keyV] at hy <;> simp [sameK] at hs
  case bool.bool =>
    subst hx hy
    cases d <;> simp [tagD, keyTag] at ht
    refine ⟨by simp [Instr.sameNow, hs], fun hb => ?_⟩
    rw [← hs] at hb
    have hb' := by simpa using hb
    rw [hb']
  case int.int =>
    subst hx hy
    obtain ⟨rfl, hs⟩ := hs
    cases d <;> simp [tagD, keyTag] at ht
    refine ⟨by simp [Instr.sameNow, hs], fun hb => ?_⟩
    rw [← hs] at hb
    have hb' := by simpa using hb
    rw [hb']
  case str.str =>
    subst hx hy
    cases d <;> simp [tagD, keyTag] at ht
    refine ⟨by simp [Instr.sameNow, hs], fun hb => ?_⟩
    rw [← hs] at hb
    rw [(bytes_beq _ _).1 hb]
theorem find_spec {d : TypeDesc} {x : PV} {key : Value} (hx : keyV x = some key) (ht : tagD d = keyTag x) : ∀ (ks : List PV) (l : List MapEntry) (i : Nat) (r : Option Nat), l.length = ks.length → (∀ (j : Nat) y, ks[j]? = some y → ∃ e, l[j]? = some e ∧ keyV y = some e.key) → mfind x ks i = some r →
    (r = none → Instr.findNow d key l i = some none) ∧ ∀ j, r = some j → i ≤ j ∧ ∃ e, l[j - i]? = some e ∧ e.key = key ∧ Instr.findNow d key l i = some (some (j, e.val))
  | [], l, i, r, hl, _, hm => by
    obtain rfl : l = [] := List.length_eq_zero_iff.1 hl
    simp [mfind] at hm
    subst hm
    exact ⟨fun _ => rfl, fun j e => by cases e⟩
  | y :: ks, [], i, r, hl, _, _ => by simp at hl
  | y :: ks, e :: l, i, r, hl, hv, hm => by
    obtain ⟨e', he', hk⟩ := hv 0 y rfl
    simp at he'; subst he'
    unfold mfind at hm
    split at hm
    · rename_i hs
      obtain ⟨s1, s2⟩ := sameK_spec hx hk ht hs
      simp at hm; subst hm
      refine ⟨fun h => (by cases h), fun j hj => ?_⟩
      cases hj
      exact ⟨Nat.le_refl _, e, by simp, s2 rfl, by simp [Instr.findNow, s1]⟩
    · rename_i hs
      obtain ⟨s1, _⟩ := sameK_spec hx hk ht hs
      obtain ⟨q1, q2⟩ := find_spec hx ht ks l (i + 1) r (by simpa using hl) (fun j z hz => hv (j + 1) z (by simpa using hz)) hm
      refine ⟨fun hr => by simp [Instr.findNow, s1, q1 hr], fun j hj => ?_⟩
      obtain ⟨q3, e', q4, q5, q6⟩ := q2 j hj
      exact ⟨by omega, e', by rw [show j - i = j - (i + 1) + 1 by omega]; simpa using q4, q5, by simp [Instr.findNow, s1, q6]⟩
    · cases hm
theorem KeysV.list {es : Array MapEntry} {ks : List PV} (hk : KeysV es ks) : es.toList.length = ks.length ∧ ∀ (j : Nat) y, ks[j]? = some y → ∃ e, es.toList[j]? = some e ∧ keyV y = some e.key :=
  ⟨by simpa using hk.1, fun j y hy => by obtain ⟨e, h1, h2, _⟩ := hk.2 j y hy; exact ⟨e, by simpa using h1, h2⟩⟩
theorem keyV_of {x : PV} (ht : keyTag x < 3) : ∃ v, keyV x = some v := by cases x <;> simp [keyTag] at ht <;> exact ⟨_, rfl⟩
theorem rep_key {n : Nat} {u v : Value} {x : PV} (hx : keyV x = some v) (hu : VRep G h w n u x) : u = v := by
  cases x <;> simp [keyV] at hx <;> subst hx
  · exact rep_bool hu
  · exact rep_int hu
  · exact rep_str hu
theorem KeysV.modify {es : Array MapEntry} {ks : List PV} (hk : KeysV es ks) (i : Nat) (f : MapEntry → MapEntry) (h1 : ∀ e, es[i]? = some e → (f e).key = e.key) (h2 : ∀ e, (f e).born = e.born) : KeysV (es.modify i f) ks := by
  refine ⟨by simpa using hk.1, fun j x hx => ?_⟩
  obtain ⟨e, a1, a2, a3⟩ := hk.2 j x hx
  rw [Array.getElem?_modify]
  by_cases hij : i = j
  · subst hij
    exact ⟨f e, by simp [a1], by rw [h1 e a1]; exact a2, by rw [h2]; exact a3⟩
  · exact ⟨e, by simp [hij, a1], a2, a3⟩
theorem KeysV.push {es : Array MapEntry} {ks : List PV} (hk : KeysV es ks) {x : PV} {key val : Value} (hx : keyV x = some key) : KeysV (es.push { key, val, born := es.size }) (ks ++ [x]) := by
  refine ⟨by simp [hk.1], fun j y hy => ?_⟩
  by_cases hj : j < ks.length
  · rw [List.getElem?_append_left hj] at hy
    obtain ⟨e, a1, a2, a3⟩ := hk.2 j y hy
    exact ⟨e, by rw [Array.getElem?_push_lt (by rw [hk.1]; exact hj)]; rw [← a1]; exact (Array.getElem?_eq_getElem _).symm, a2, a3⟩
  · have hj2 : j = ks.length := by
      have := (List.getElem?_eq_some_iff.1 hy).1
      simp at this; omega
    subst hj2
    rw [List.getElem?_append_right (Nat.le_refl _), Nat.sub_self] at hy
    cases hy
    exact ⟨{ key, val, born := es.size }, by rw [← hk.1]; simp, hx, hk.1⟩
theorem Bl.setMap {r c : Nat} {es : Array MapEntry} (hB : B ≤ r) (hb : w.heap[r]? = some (.map es c)) (o : Obj) : Bl B w { w with heap := w.heap.setIfInBounds r o } := by
  refine ⟨⟨rfl, rfl, rfl, by simp, fun k hk => (heap_set hb).2 k (by omega)⟩, fun k ob h1 h2 => ?_⟩
  by_cases hk : k = r
  · subst hk; rw [hb] at h1; cases h1; cases h2
  · show (w.heap.setIfInBounds r o)[k]? = some ob
    rw [(heap_set hb).2 k hk]; exact h1
/-- WHAT A MAP HOLDS IS CHANGED -/
theorem map_write (hr : HRep B Z0 G h w) {k g : Nat} {ks vs ks' vs' : List PV} {es es' : Array MapEntry} (hh : h[k]? = some (g, .mp false ks vs)) (hb : w.heap[G.β (root k)]? = some (.map es es.size)) (h1 : KeysV es' ks') (h2 : ks'.length = vs'.length)
    (h3 : ∀ (i : Nat) c, vs'[i]? = some c → ∃ e, es'[i]? = some e ∧ MRep G h w k i e.val c) :
    HRep B Z0 G (h.set k (g, .mp false ks' vs')) { w with heap := w.heap.setIfInBounds (G.β (root k)) (.map es' es'.size) } ∧ Ext G h w G (h.set k (g, .mp false ks' vs')) { w with heap := w.heap.setIfInBounds (G.β (root k)) (.map es' es'.size) } ∧
      Bl B w { w with heap := w.heap.setIfInBounds (G.β (root k)) (.map es' es'.size) } := by
  have hk : k < h.length := (List.getElem?_eq_some_iff.1 hh).1
  have hob := hr.ob k g _ hh
  unfold ORep at hob
  obtain ⟨hR, _⟩ := hob
  have hs1 := (heap_set (o' := .map es' es'.size) hb).1
  have hs2 := (heap_set (o' := .map es' es'.size) hb).2
  have x : Ext G h w G (h.set k (g, .mp false ks' vs')) { w with heap := w.heap.setIfInBounds (G.β (root k)) (.map es' es'.size) } := by
    refine ⟨fun _ y => y, fun b hz => hs2 b fun e => hr.nz k g _ hh rfl none hR (e ▸ hz), fun k' gn ob e => ?_⟩
    by_cases hkk : k' = k
    · subst hkk; rw [hh] at e; cases e
      exact ⟨g, _, List.getElem?_set_self hk, Nat.le_refl _, fun _ => ⟨fun _ _ _ _ e' => (by cases e'), fun _ e' => (by cases e'), fun _ _ _ _ => ⟨_, _, _, rfl, SameKey.refl _ _⟩⟩⟩
    · exact ⟨gn, ob, by rw [List.getElem?_set_ne (Ne.symm hkk)]; exact e, Nat.le_refl _, fun _ => Keep.refl k' ob (SameKey.refl _ _) fun i j => SameKey.refl _ _⟩
  have hother : ∀ k' y, (k', y) ≠ root k → G.R (k', y) → (w.heap.setIfInBounds (G.β (root k)) (.map es' es'.size))[G.β (k', y)]? = w.heap[G.β (k', y)]? := fun k' y hne hR' => hs2 _ fun e => hne (hr.inj _ _ hR' hR e)
  refine ⟨hr.update k g _ hk x (fun _ _ _ => .inl (SameKey.refl _ _)) (fun k' y hkk hR' => hother k' y (fun e => hkk (congrArg Prod.fst e)) hR') (by simp) (fun b hz => (hr.zb b hz).eq (x.zw b hz)) (fun b hb => .inl hb) (fun _ _ _ _ hn => hn) (fun y hR' => ?_) (fun e => by cases e) ?_, x, Bl.setMap (hr.lv _ hR).1 hb _⟩
  · obtain ⟨b1, b2⟩ := hr.lv _ hR'
    refine ⟨b1, ?_, fun _ => hr.nz k g _ hh rfl y hR', fun y' hR2 e => congrArg Prod.snd (hr.inj _ _ hR' hR2 e), fun k' y' hkk hR2 e => hkk (congrArg Prod.fst (hr.inj _ _ hR' hR2 e)).symm⟩
    cases y with
    | none => exact ⟨_, hs1, rfl⟩
    | some ij => exact b2.eq (hother k _ (by simp) hR')
  · unfold ORep
    refine ⟨hR, h2, es', hs1, h1, fun i c hc => ?_⟩
    obtain ⟨e, a1, a2⟩ := h3 i c hc
    exact ⟨e, a1, a2.ext x (SameKey.refl _ _) fun hR' => hother k _ (by simp) hR'⟩
/-- what a map is in memory -/
theorem map_at (hr : HRep B Z0 G h w) {k g : Nat} {fr : Bool} {ks vs : List PV} {m : Value} (hh : h[k]? = some (g, .mp fr ks vs)) (hm : VRep G h w D m (.mapv k g)) :
    m = .map (some (G.β (root k))) ∧ ks.length = vs.length ∧ ∃ es, w.heap[G.β (root k)]? = some (.map es es.size) ∧ KeysV es ks ∧ ∀ (i : Nat) c, vs[i]? = some c → ∃ e, es[i]? = some e ∧ MRep G h w k i e.val c := by
  have hob := hr.ob k g _ hh
  unfold ORep at hob
  obtain ⟨_, o1, o2⟩ := hob
  unfold D at hm; unfold VRep at hm
  obtain ⟨b, rfl, gn, ob, q1, _, q2⟩ := hm
  rw [hh] at q1; cases q1
  rw [q2 rfl _ _ _ rfl]
  exact ⟨rfl, o1, o2⟩
theorem mvR_notU {c : PV} (hc : mvR c = true) : ∀ ns, c ≠ .uslc ns := fun ns e => by subst e; simp [mvR, pureC, fn0] at hc
theorem mrep_of {k i : Nat} {u : Value} {c : PV} (hc : ∀ ns, c ≠ .uslc ns) : MRep G h w k i u c ↔ VRep G h w D u c := by
  cases c <;> first | exact absurd rfl (hc _) | (unfold MRep; exact Iff.rfl)
def Gh.drp (G : Gh) (k i : Nat) : Gh := { G with R := fun key => key ≠ nest k i 0 ∧ G.R key }
theorem drp_same {G : Gh} {k i : Nat} {key : Key} (h : key ≠ nest k i 0) : SameKey G (G.drp k i) key := ⟨rfl, ⟨fun x => x.2, fun x => ⟨h, x⟩⟩, rfl, rfl⟩
def Gh.own3 (G : Gh) (k b γ0 : Nat) : Gh :=
  { G with β := fun key => if key = root k then b else G.β key
           R := fun key => key = root k ∨ key.1 ≠ k ∧ G.R key
           γ := fun key => if key = root k then γ0 else G.γ key }
theorem own3_same {G : Gh} {k b γ0 k' : Nat} {y : Option (Nat × Nat)} (h : k' ≠ k) : SameKey G (G.own3 k b γ0) (k', y) := by
  have hne : ((k', y) : Key) ≠ root k := fun e => h (congrArg Prod.fst e)
  exact ⟨by simp [Gh.own3, hne], ⟨fun x => (x.resolve_left hne).2, fun x => .inr ⟨h, x⟩⟩, by simp [Gh.own3, hne], rfl⟩
/-- a block that nobody has becomes an array's -/
theorem own_block {G : Gh} {h : Heap} {w : World} (hr : HRep B Z0 G h w) {k g b γ0 sz : Nat} {ns : List PV} {us : Array Value} {T : TypeId} (hh : h[k]? = some (g, .dead)) (hB : B ≤ b) (hz : ¬ G.Z b) (hfree : ∀ key, G.R key → G.β key ≠ b)
    (hw : w.heap[b]? = some (.cells us T (0, 0))) (h1 : ns.length ≤ γ0) (h2 : γ0 ≤ maxLen) (hsz : 0 < sz) (h3 : us.size = γ0 * sz)
    (h4 : ∀ (i : Nat) e, ns[i]? = some e → (ecells e).length = sz ∧ ∀ (j : Nat) c, (ecells e)[j]? = some c → one c = true ∧ ∃ v, us[i * sz + j]? = some v ∧ PR G.Z w v c) :
    HRep B Z0 (G.own3 k b γ0) (h.set k (g + 1, .arr sz 0 false ns)) w ∧ Ext G h w (G.own3 k b γ0) (h.set k (g + 1, .arr sz 0 false ns)) w := by
  have hk : k < h.length := (List.getElem?_eq_some_iff.1 hh).1
  have hb : (G.own3 k b γ0).β (root k) = b := by simp [Gh.own3]
  have hγ : (G.own3 k b γ0).γ (root k) = γ0 := by simp [Gh.own3]
  have x : Ext G h w (G.own3 k b γ0) (h.set k (g + 1, .arr sz 0 false ns)) w := by
    refine ⟨fun _ y => y, fun _ _ => rfl, fun k' gn ob e => ?_⟩
    by_cases hkk : k' = k
    · subst hkk; rw [hh] at e; cases e
      exact ⟨g + 1, _, List.getElem?_set_self hk, by omega, fun e => by omega⟩
    · exact ⟨gn, ob, by rw [List.getElem?_set_ne (Ne.symm hkk)]; exact e, Nat.le_refl _, fun _ => Keep.refl k' ob (own3_same hkk) fun i j => own3_same hkk⟩
  have only : ∀ y, (G.own3 k b γ0).R (k, y) → y = none := fun y hR => by
    rcases hR with e | ⟨e, _⟩
    · exact congrArg Prod.snd e
    · exact absurd rfl e
  refine ⟨hr.update k (g + 1) _ hk x (fun k' y hkk => .inl (own3_same hkk)) (fun _ _ _ _ => rfl) (Nat.le_refl _) (fun b hb => hr.zb b hb) (fun b hb => .inl hb) (fun _ _ _ _ hn => hn) (fun y hR => ?_) (fun e => by cases e) ?_, x⟩
  · obtain rfl := only y hR
    rw [show (G.own3 k b γ0).β (k, none) = b from hb]
    refine ⟨hB, isC.of hw, fun _ => hz, fun y' hR' _ => (only y' hR').symm, fun k' y' hkk hR' e => ?_⟩
    obtain ⟨a1, a2, _⟩ := own3_same (G := G) (b := b) (γ0 := γ0) (y := y') hkk
    rw [a1] at e
    exact hfree _ (a2.1 hR') e.symm
  · unfold ORep
    rw [hb, hγ]
    refine ⟨hsz, h1, h2, fun _ => ⟨us, T, hw, h3, fun i e he => ?_⟩, fun hn => absurd (.inl rfl) hn⟩
    obtain ⟨q1, q2⟩ := h4 i e he
    refine ⟨q1, fun j c hc => ?_⟩
    obtain ⟨q3, v, q4, q5⟩ := q2 j c hc
    refine ⟨v, q4, ?_⟩
    have hv := prep_vrep (G := G.own3 k b γ0) (h := h.set k (g + 1, .arr sz 0 false ns)) q3 q5
    revert q3 hv
    cases c <;> intro q3 hv <;> first | (simp [one] at q3; done) | (unfold CRep; exact ⟨q3, hv⟩)

theorem mapA_some {t : TypeId} {n s : Nat} {z : PV} (hk : mapA P t = some (n, z, s)) : ∃ kt et d, P.underlying t = some (.map kt et) ∧ P.underlying kt = some d ∧ tagD d = n ∧ n < 3 ∧ zeroA P et = some z := by
  unfold mapA at hk
  split at hk
  · rename_i kt et hu
    split at hk
    · rename_i n' z' h1 h2
      cases hk
      obtain ⟨d, d1, d2, d3⟩ := keyKind_some h1
      exact ⟨kt, et, d, hu, d1, d2, d3, h2⟩
    · cases hk
  · cases hk
theorem keyV_isKey {x : PV} {key : Value} (hx : keyV x = some key) : ∃ d, IsKey d key := by
  cases x <;> simp [keyV] at hx <;> subst hx
  · exact ⟨.bool, trivial⟩
  · exact ⟨.int _, rfl⟩
  · exact ⟨.string, trivial⟩
theorem set_same {α : Type} {l : List α} {k : Nat} {a : α} (h : l[k]? = some a) : l.set k a = l := by
  obtain ⟨hk, hg⟩ := List.getElem?_eq_some_iff.1 h
  rw [← hg]; exact List.set_getElem_self hk
/-- a new map -/
theorem snd_makeMap (hr : HRep B Z0 G h w) {hide : List Nat} {k : Nat} (hk : k < h.length ∧ hide.contains k = false) (t : TypeId) :
    Good P B Z0 G h w (do pure (.value (← Instr.makeMap t none))) (.mapv k ((lkOf h hide k).1 + 1)) [(k, ((lkOf h hide k).1 + 1, .mp false [] []))] := by
  obtain ⟨⟨g, old⟩, hh⟩ : ∃ r, h[k]? = some r := ⟨_, List.getElem?_eq_getElem hk.1⟩
  rw [lk_gen hk.2 hh]
  obtain ⟨h1, h2⟩ := alloc_obj (w' := w.alloc (.map #[] 0)) (o' := .mp false [] []) hr hh (ob := .map #[] 0) rfl 0 rfl (fun e => by cases e) (fun x => by
    unfold ORep
    refine ⟨by simp [Gh.put], rfl, #[], ?_, ⟨rfl, by simp⟩, by simp⟩
    rw [show (G.put k w.heap.size 0).β (root k) = w.heap.size by simp [Gh.put]]
    exact heap_alloc_new w _)
  refine ⟨.value (.map (some w.heap.size)), _, w.alloc (.map #[] 0), _, by simp [Instr.makeMap], .inl rfl, h1, h2, ?_, below_push hr _⟩
  unfold D; unfold VRep
  refine ⟨_, rfl, g + 1, .mp false [] [], List.getElem?_set_self hk.1, Nat.le_refl _, fun _ _ _ _ e => ?_⟩
  simp [Gh.put]
/-- what is read out of a map, one level down -/
theorem low_ones {v : Value} {c : PV} (ho : (ecells c).all one = true) (hv : VRep G h w D v c) : VRep G h w 5 v c := by
  by_cases hc : ∃ cs, c = .agg cs
  · obtain ⟨cs, rfl⟩ := hc
    obtain ⟨vs, rfl, h1, h2⟩ := rep_agg hv
    unfold VRep
    refine ⟨vs, rfl, h1, fun i x hx => ?_⟩
    obtain ⟨u, h3, h4⟩ := h2 i x hx
    exact ⟨u, h3, one_cell (List.all_eq_true.1 ho x (List.mem_of_getElem? hx)) h4⟩
  · have : ecells c = [c] := by cases c <;> first | rfl | exact absurd ⟨_, rfl⟩ hc
    rw [this] at ho
    exact one_cell (by simpa using ho) hv
theorem low_mvR {v : Value} {c : PV} (hc : mvR c = true) (hv : VRep G h w D v c) : VRep G h w 5 v c := by
  by_cases hf : ∃ f a b, c = .fn f a b
  · obtain ⟨f, a, b, rfl⟩ := hf
    have hfn : a = [] ∧ b = [] := by
      simp only [mvR, pureC, Bool.false_or] at hc
      unfold fn0 at hc
      split at hc
      · rename_i e; cases e; exact ⟨rfl, rfl⟩
      · cases hc
    obtain ⟨rfl, rfl⟩ := hfn
    obtain ⟨vs, us, rfl, h1, h2⟩ := rep_fn hv
    unfold VRep
    exact ⟨vs, us, rfl, ⟨h1.1, fun i c hc => by simp at hc⟩, ⟨h2.1, fun i c hc => by simp at hc⟩⟩
  · refine low_ones ?_ hv
    cases c <;> simp [mvR, pureC, fn0, ecells, one] at hc ⊢
    case agg cs => exact fun x hx => pure_one (hc x hx)
    case fn f a b => exact absurd ⟨_, _, _, rfl⟩ hf
theorem mk_tup2 {u v : Value} {p q : PV} (h1 : VRep G h w 5 u p) (h2 : VRep G h w 5 v q) : VRep G h w D (.tuple #[u, v]) (.tup [p, q]) := by
  unfold D; unfold VRep
  refine ⟨_, rfl, rfl, fun i c hc => ?_⟩
  match i, hc with
  | 0, hc => simp at hc; subst hc; exact ⟨u, rfl, h1⟩
  | 1, hc => simp at hc; subst hc; exact ⟨v, rfl, h2⟩
  | i + 2, hc => simp at hc
theorem run_lookup (hr : HRep B Z0 G h w) {t : TypeId} {n s : Nat} {ok : Bool} {z px p : PV} {m x : Value} {ks vs : List PV} {es : Array MapEntry} {ws : List (Nat × Row)} (ht : mapA P t = some (n, z, s)) (hm : (m = .map none ∧ es = #[]) ∨ ∃ r, m = .map (some r) ∧ w.heap[r]? = some (.map es es.size)) (hx : VRep G h w D x px)
    (hK : KeysV es ks) (hvs : ∀ (i : Nat) c, vs[i]? = some c → mvR c = true → ∃ e, es[i]? = some e ∧ VRep G h w D e.val c) (ha : lookR n ok z px ks vs = some (p, ws)) :
    Good P B Z0 G h w (do pure (.value (← Instr.lookup t m x ok))) p ws := by
  obtain ⟨kt, et, d, u1, u2, u3, u4, u5⟩ := mapA_some ht
  unfold lookR at ha
  split at ha
  case isFalse => cases ha
  rename_i hc
  obtain ⟨c3, c4⟩ := hc
  obtain ⟨key, hkey⟩ := keyV_of (x := px) (by omega)
  obtain rfl := rep_key hkey hx
  obtain ⟨l1, l2⟩ := hK.list
  have hgo : ∀ {a : Option (Nat × Value)} {r : Value}, Instr.findNow d x es.toList 0 = some a → (∀ y, a = some y → r = (if ok then .tuple #[y.2, .bool true] else y.2)) → (a = none → ∃ zv, (zeroValue et).run P w = .ok zv w ∧ r = (if ok then .tuple #[zv, .bool false] else zv)) → (Instr.lookup t m x ok).run P w = .ok r w := by
    intro a r hf hs hn
    have hft := MapKept.run_findKey (P := P) (w := w) u2 hf
    rcases hm with ⟨rfl, rfl⟩ | ⟨r0, rfl, hb⟩
    · cases a with
      | none =>
        obtain ⟨zv, z1, rfl⟩ := hn rfl
        simp [Instr.lookup, run_underlying u1, run_ck u2 (by omega), z1, Result.andThen] at hft ⊢
        simp [hft, z1, Result.andThen]
      | some y =>
        have := hs y rfl
        subst this
        simp [Instr.findNow] at hf
    · cases a with
      | none =>
        obtain ⟨zv, z1, rfl⟩ := hn rfl
        simp [Instr.lookup, run_underlying u1, MapKept.run_getObj_map hb, run_ck u2 (by omega), hft, z1, Result.andThen]
      | some y =>
        have := hs y rfl
        subst this
        simp [Instr.lookup, run_underlying u1, MapKept.run_getObj_map hb, run_ck u2 (by omega), hft, Result.andThen]
  split at ha
  · rename_i i hf
    obtain ⟨_, q⟩ := find_spec (d := d) hkey (by omega) ks es.toList 0 _ l1 l2 hf
    obtain ⟨_, e, q1, q2, q3⟩ := q i rfl
    split at ha
    · rename_i c hc
      split at ha
      · rename_i hmv
        simp only [Option.some.injEq, Prod.mk.injEq] at ha
        obtain ⟨rfl, rfl⟩ := ha
        obtain ⟨e', a1, a2⟩ := hvs i c hc hmv
        have : e' = e := by
          have : es[i]? = some e := by simpa using q1
          rw [this] at a1; exact (Option.some.inj a1).symm
        subst this
        refine good_val hr (hgo q3 (fun y hy => by cases hy; rfl) (fun hn => by cases hn)) ?_
        cases ok
        · exact a2
        · exact mk_tup2 (low_mvR hmv a2) mk_bool
      · cases ha
    · cases ha
  · rename_i hf
    simp only [Option.some.injEq, Prod.mk.injEq] at ha
    obtain ⟨rfl, rfl⟩ := ha
    obtain ⟨q, _⟩ := find_spec (d := d) hkey (by omega) ks es.toList 0 _ l1 l2 hf
    obtain ⟨i, zv, z1, z2, z3⟩ := zeroA_some u5
    obtain ⟨z4, z5⟩ := ofV_rep (G := G) (h := h) (w := w) z3
    refine good_val hr (hgo (q rfl) (fun y hy => by cases hy) (fun _ => ⟨zv, run_zero z1 z2, rfl⟩)) ?_
    cases ok
    · exact z4
    · exact mk_tup2 (low_ones z5 z4) mk_bool
  · cases ha
theorem prep_D {v : Value} {c : PV} (hc : mvR c = true) (hp : PR G.Z w v c) : VRep G h w D v c := by
  cases c <;> simp [mvR, pureC, fn0] at hc
  case agg cs =>
    obtain ⟨n, hp⟩ := hp
    cases n with
    | zero => unfold PRep at hp; exact hp.elim
    | succ n =>
      unfold PRep at hp
      obtain ⟨vs, rfl, h1, h2⟩ := hp
      refine mk_agg ⟨h1, fun i x hx => ?_⟩
      obtain ⟨u, h3, h4⟩ := h2 i x hx
      have hx1 := pure_one (hc x (List.mem_of_getElem? hx))
      exact ⟨u, h3, one_cell hx1 (prep_vrep hx1 ⟨n, h4⟩)⟩
  case fn f a b =>
    obtain ⟨n, hp⟩ := hp
    split at hc
    · rename_i gf e
      cases e
      have hv : v = .func (.func gf) #[] #[] := by cases n <;> (unfold PRep at hp; exact hp)
      subst hv
      unfold D; unfold VRep
      exact ⟨_, _, rfl, ⟨rfl, fun i c hc => by simp at hc⟩, ⟨rfl, fun i c hc => by simp at hc⟩⟩
    · cases hc
  all_goals exact prep_vrep rfl hp
/-- an entry is looked up -/
theorem snd_lookup (hr : HRep B Z0 G h w) {hide : List Nat} {t : TypeId} {n s : Nat} {ok : Bool} {z pm px p : PV} {m x : Value} {ws : List (Nat × Row)} (ht : mapA P t = some (n, z, s)) (hm : VRep G h w D m pm) (hx : VRep G h w D x px) (ha : lookupP (lkOf h hide) n ok z pm px = some (p, ws)) :
    Good P B Z0 G h w (do pure (.value (← Instr.lookup t m x ok))) p ws := by
  unfold lookupP at ha
  split at ha
  · rename_i k g
    split at ha
    · rename_i g' fr ks vs hlk
      split at ha
      · rename_i hg
        subst hg
        have hh := lk_some hlk (by simp)
        obtain ⟨rfl, hl, es, hb, hK, hvs⟩ := map_at hr hh hm
        exact run_lookup hr ht (.inr ⟨_, rfl, hb⟩) hx hK (fun i c hc hmv => by obtain ⟨e, a1, a2⟩ := hvs i c hc; exact ⟨e, a1, (mrep_of (mvR_notU hmv)).1 a2⟩) ha
      · cases ha
    · cases ha
  · rename_i ks vs
    obtain ⟨b, es, rfl, _, hb, hK, _, hvs⟩ := PR.mlit (rep_mlit hm)
    exact run_lookup hr ht (.inr ⟨_, rfl, hb⟩) hx hK (fun i c hc hmv => by obtain ⟨e, a1, a2⟩ := hvs i c hc; exact ⟨e, a1, prep_D hmv a2⟩) ha
  · unfold D at hm; unfold VRep at hm
    obtain ⟨rfl, _⟩ := hm
    exact run_lookup hr ht (.inl ⟨rfl, rfl⟩) hx ⟨rfl, fun i x hx => by simp at hx⟩ (fun i c hc => by simp at hc) ha
  · cases ha
theorem drp_map (hr : HRep B Z0 G h w) {k g i : Nat} {fr : Bool} {ks vs : List PV} (hh : h[k]? = some (g, .mp fr ks vs)) (hn : ∀ ns, vs[i]? ≠ some (.uslc ns)) : HRep B Z0 (G.drp k i) h w ∧ Ext G h w (G.drp k i) h w := by
  have x : Ext G h w (G.drp k i) h w := by
    refine ⟨fun _ y => y, fun _ _ => rfl, fun k' gn ob e => ⟨gn, ob, e, Nat.le_refl _, fun _ => ?_⟩⟩
    by_cases hkk : k' = k
    · subst hkk; rw [hh] at e; cases e
      exact ⟨fun _ _ _ _ e' => (by cases e'), fun _ e' => (by cases e'), fun _ _ _ e' => ⟨_, _, _, rfl, drp_same (by simp)⟩⟩
    · exact Keep.refl k' ob (drp_same (by simp)) fun a b => drp_same fun e => hkk (congrArg Prod.fst e)
  refine ⟨⟨hr.base, hr.zo, hr.zb, fun key hk => hr.lv key hk.2, fun k g o ho hl y hR => hr.nz k g o ho hl y hR.2, fun k g o ho hl y hR => hr.fz k g o ho hl y hR.2, fun a b h1 h2 e => hr.inj a b h1.2 h2.2 e, fun k' g' o ho => ?_⟩, x⟩
  by_cases hkk : k' = k
  · subst hkk; rw [hh] at ho; cases ho
    have hob := hr.ob _ _ _ hh
    unfold ORep at hob ⊢
    obtain ⟨o1, o2, es, o3, o4, o5⟩ := hob
    refine ⟨⟨by simp, o1⟩, o2, es, o3, o4, fun j c hc => ?_⟩
    obtain ⟨e, e1, e2⟩ := o5 j c hc
    refine ⟨e, e1, ?_⟩
    by_cases hji : j = i
    · subst hji
      have hcn : ∀ ns, c ≠ .uslc ns := fun ns e => hn ns (by rw [hc, e])
      exact (mrep_of hcn).2 (((mrep_of hcn).1 e2).ext x)
    · exact e2.ext x (drp_same fun e => hji (by simpa using e)) fun _ => rfl
  · exact (hr.ob k' g' o ho).ext x (fun y => drp_same fun e => hkk (congrArg Prod.fst e)) fun _ _ => rfl
theorem lookBorn {es : Array MapEntry} {ks : List PV} (hK : KeysV es ks) {i : Nat} {e : MapEntry} (he : es[i]? = some e) : e.born = i := by
  have hi := (Array.getElem?_eq_some_iff.1 he).1
  rw [hK.1] at hi
  obtain ⟨e', h1, _, h3⟩ := hK.2 i _ (List.getElem?_eq_getElem hi)
  rw [he] at h1; cases h1; exact h3
/-- an entry is about to be appended to -/
theorem snd_mapEntry (hr : HRep B Z0 G h w) {hide : List Nat} {t : TypeId} {n s k3 sz : Nat} {z pm px p : PV} {m x : Value} {ws : List (Nat × Row)} (ht : mapA P t = some (n, z, s)) (hsz : 0 < sz) (hk3 : k3 < h.length ∧ hide.contains k3 = false) (hm : VRep G h w D m pm) (hx : VRep G h w D x px) (ha : mapEntryP (lkOf h hide) k3 n sz z pm px = some (p, ws)) :
    Good P B Z0 G h w (do pure (.value (← Instr.mapEntry t m x))) p ws := by
  obtain ⟨kt, et, d, u1, u2, u3, u4, u5⟩ := mapA_some ht
  unfold mapEntryP at ha
  split at ha
  case h_2 => cases ha
  rename_i k g
  split at ha
  case h_2 => cases ha
  rename_i g' fr ks vs hlk
  split at ha
  case isFalse => cases ha
  rename_i hc
  obtain ⟨rfl, rfl, c3, c4, hne⟩ := hc
  have hh := lk_some hlk (by simp)
  have hkl : k < h.length := (List.getElem?_eq_some_iff.1 hh).1
  obtain ⟨rfl, hl, es, hb, hK, hvs⟩ := map_at hr hh hm
  obtain ⟨key, hkey⟩ := keyV_of (x := px) (by omega)
  obtain rfl := rep_key hkey hx
  obtain ⟨l1, l2⟩ := hK.list
  split at ha
  · rename_i i hf
    obtain ⟨_, q⟩ := find_spec (d := d) hkey (by omega) ks es.toList 0 _ l1 l2 hf
    obtain ⟨_, e, q1, q2, q3⟩ := q i rfl
    obtain ⟨d', hd'⟩ := keyV_isKey hkey
    have q1' : es[i]? = some e := by simpa using q1
    have hborn := lookBorn hK q1'
    have hrun : (Instr.mapEntry t (.map (some (G.β (root k)))) x).run P w = .ok (.tuple #[e.val, .int .i64 i]) { w with heap := w.heap.setIfInBounds (G.β (root k)) (.map (es.modify i fun e => { e with key := x }) (es.modify i fun e => { e with key := x }).size) } := by
      simp [Instr.mapEntry, run_underlying u1, MapKept.run_getObj_map hb, run_ck u2 (by omega), MapKept.run_findKey u2 q3, q1', q2, MapKept.run_keyThatStays hd', MapKept.run_setObj_map _ hb, Result.andThen, hborn, goInt]
    have hK' : KeysV (es.modify i fun e => { e with key := x }) ks := hK.modify i _ (fun e' he' => by rw [q1'] at he'; cases he'; exact q2.symm) (fun _ => rfl)
    have hget : ∀ j (e' : MapEntry), es[j]? = some e' → ∃ e2 : MapEntry, (es.modify i fun e => { e with key := x })[j]? = some e2 ∧ e2.val = e'.val := fun j e' he' => by
      refine ⟨if i = j then { e' with key := x } else e', ?_, by split <;> rfl⟩
      rw [Array.getElem?_modify]
      by_cases hij : i = j
      · rw [if_pos hij, if_pos hij, he']; rfl
      · rw [if_neg hij, if_neg hij, he']
    split at ha
    · rename_i ns hns
      split at ha
      case h_2 => cases ha
      rename_i g3 hlk3
      split at ha
      case isFalse => cases ha
      rename_i hcn
      obtain ⟨hn0, hszo⟩ := hcn
      simp only [Option.some.injEq, Prod.mk.injEq] at ha
      obtain ⟨rfl, rfl⟩ := ha
      have hh3 : h[k3]? = some (g3, .dead) := by
        unfold lkOf at hlk3
        rw [if_neg (by rw [hk3.2]; simp), List.getD_eq_getElem?_getD, List.getElem?_eq_getElem hk3.1] at hlk3
        rw [List.getElem?_eq_getElem hk3.1]; exact congrArg some hlk3
      obtain ⟨e0, e01, e02⟩ := hvs i _ hns
      have : e0 = e := by rw [q1'] at e01; exact (Option.some.inj e01).symm
      subst this
      have hil : i < vs.length := (List.getElem?_eq_some_iff.1 hns).1
      unfold MRep at e02
      have hN := e02
      unfold NRep at e02
      have hRn : G.R (nest k i 0) := Classical.byContradiction fun hn => by
        have := (e02.2 hn).2
        subst this; simp at hn0
      have hev : ∃ a c, e0.val = .slice a ns.length c := by
        obtain ⟨us2, T2, f, c, h1, _⟩ := e02.1 hRn
        exact ⟨_, _, h1⟩
      obtain ⟨A1, A2, A3⟩ := map_write hr hh hb (es' := es.modify i fun e => { e with key := x }) (ks' := ks) (vs' := vs.set i .any) hK' (by rw [List.length_set]; exact hl) (fun j c hc => by
        by_cases hij : i = j
        · subst hij
          rw [List.getElem?_set_self hil] at hc
          cases hc
          obtain ⟨e2, g1, g2⟩ := hget i e0 q1'
          refine ⟨e2, g1, ?_⟩
          unfold MRep D; unfold VRep
          obtain ⟨a, c, ha⟩ := hev
          rw [g2, ha]; exact ⟨rfl, rfl⟩
        · rw [List.getElem?_set_ne hij] at hc
          obtain ⟨e', a1, a2⟩ := hvs j c hc
          obtain ⟨e2, g1, g2⟩ := hget j e' a1
          exact ⟨e2, g1, by rw [g2]; exact a2⟩)
      have hRk : G.R (root k) := by have := hr.ob k _ _ hh; unfold ORep at this; exact this.1
      have hN1 := NRep.key A2 (SameKey.refl _ _) (fun hR => (heap_set hb).2 _ fun e => by have := hr.inj _ _ hR hRk e; simp at this) hN
      unfold NRep at hN1
      obtain ⟨us2, T2, f, c, v1, n2, n3, n4, n5, n6, n7, n8, n9⟩ := hN1.1 hRn
      have hσ : G.σ (nest k i 0) = sz := by
        have q := (n9 0 ns[0] (List.getElem?_eq_getElem hn0)).1
        have := List.all_eq_true.1 hszo ns[0] (List.getElem_mem hn0)
        simp at this
        omega
      rw [hσ] at n7
      have hh1 : (h.set k (g', .mp false ks (vs.set i .any)))[k]? = some (g', .mp false ks (vs.set i .any)) := List.getElem?_set_self hkl
      obtain ⟨B1, B2⟩ := drp_map (i := i) A1 hh1 (fun ns' e => by rw [List.getElem?_set_self hil] at e; cases e)
      have hh3' : (h.set k (g', .mp false ks (vs.set i .any)))[k3]? = some (g3, .dead) := by rw [List.getElem?_set_ne hne]; exact hh3
      obtain ⟨C1, C2⟩ := own_block B1 (us := us2) (T := T2) (b := G.β (nest k i 0)) (γ0 := G.γ (nest k i 0)) (sz := sz) (ns := ns) hh3' (hr.lv _ hRn).1 (hr.nz k g' _ hh rfl _ hRn) (fun key hk e => hk.1 (hr.inj _ _ hk.2 hRn e)) n6 (by omega) n5 hsz n7 (fun a e hae => by
        obtain ⟨r1, r2⟩ := n9 a e hae
        rw [hσ] at r1 r2
        exact ⟨r1, fun j cc hcc => r2 j cc hcc⟩)
      refine ⟨.value (.tuple #[e0.val, .int .i64 i]), _, _, _, by simp [hrun, Result.andThen], .inl rfl, C1, A2.trans (B2.trans C2), mk_tup2 ?_ mk_int, A3⟩
      refine one_cell (n := D) rfl ?_
      rw [v1]
      unfold D; unfold VRep
      refine ⟨_, c, rfl, n3, by omega, .inr ⟨_, _, rfl⟩, g3 + 1, _, List.getElem?_set_self (by simpa using hk3.1), Nat.le_refl _, fun _ sz' vr fr' es' e => ?_⟩
      cases e
      exact ⟨Nat.le_refl _, fun _ => ⟨by omega, fun _ => ⟨f, by simp [Gh.own3], n2.imp id fun h _ => by omega, by omega, by simp [Gh.own3]; omega⟩, fun hn => absurd (.inl rfl) hn⟩⟩
    · rename_i c hcn hcv
      split at ha
      case isFalse => cases ha
      rename_i hmv
      simp only [Option.some.injEq, Prod.mk.injEq] at ha
      obtain ⟨rfl, rfl⟩ := ha
      obtain ⟨A1, A2, A3⟩ := map_write hr hh hb (es' := es.modify i fun e => { e with key := x }) (ks' := ks) (vs' := vs) hK' hl (fun j c hc => by
        obtain ⟨e', a1, a2⟩ := hvs j c hc
        obtain ⟨e2, g1, g2⟩ := hget j e' a1
        exact ⟨e2, g1, by rw [g2]; exact a2⟩)
      rw [set_same hh] at A1 A2
      obtain ⟨e0, e01, e02⟩ := hvs i _ hcv
      have : e0 = e := by rw [q1'] at e01; exact (Option.some.inj e01).symm
      subst this
      have hv := (mrep_of (mvR_notU hmv)).1 e02
      exact ⟨.value (.tuple #[e0.val, .int .i64 i]), _, _, _, by simp [hrun, Result.andThen], .inl rfl, A1, A2, mk_tup2 (low_mvR hmv (hv.ext A2)) mk_int, A3⟩
    · cases ha
  · rename_i hf
    split at ha
    case isFalse => cases ha
    rename_i hmv
    simp only [Option.some.injEq, Prod.mk.injEq] at ha
    obtain ⟨rfl, rfl⟩ := ha
    obtain ⟨q, _⟩ := find_spec (d := d) hkey (by omega) ks es.toList 0 _ l1 l2 hf
    obtain ⟨i, zv, z1, z2, z3⟩ := zeroA_some u5
    obtain ⟨z4, z5⟩ := ofV_rep (G := G) (h := h) (w := w) z3
    have hrun : (Instr.mapEntry t (.map (some (G.β (root k)))) x).run P w = .ok (.tuple #[zv, .int .i64 ks.length]) { w with heap := w.heap.setIfInBounds (G.β (root k)) (.map (es.push { key := x, val := zv, born := es.size }) (es.push { key := x, val := zv, born := es.size }).size) } := by
      simp [Instr.mapEntry, run_underlying u1, MapKept.run_getObj_map hb, run_ck u2 (by omega), MapKept.run_findKey u2 (q rfl), run_zero z1 z2, MapKept.run_setObj_map _ hb, Result.andThen, goInt, ← hK.1]
    obtain ⟨A1, A2, A3⟩ := map_write hr hh hb (es' := es.push { key := x, val := zv, born := es.size }) (ks' := ks ++ [px]) (vs' := vs ++ [z]) (hK.push hkey) (by simp [hl]) (fun j c hc => by
      by_cases hj : j < vs.length
      · rw [List.getElem?_append_left hj] at hc
        obtain ⟨e', a1, a2⟩ := hvs j c hc
        have hje : j < es.size := (Array.getElem?_eq_some_iff.1 a1).1
        exact ⟨e', by rw [Array.getElem?_push_lt hje, ← a1]; exact (Array.getElem?_eq_getElem _).symm, a2⟩
      · have hj2 : j = vs.length := by have := (List.getElem?_eq_some_iff.1 hc).1; simp at this; omega
        subst hj2
        rw [List.getElem?_append_right (Nat.le_refl _), Nat.sub_self] at hc
        cases hc
        exact ⟨{ key := x, val := zv, born := es.size }, by rw [← hl, ← hK.1]; simp, (mrep_of (mvR_notU hmv)).2 z4⟩)
    exact ⟨.value (.tuple #[zv, .int .i64 ks.length]), _, _, _, by simp [hrun, Result.andThen], .inl rfl, A1, A2, mk_tup2 (low_mvR hmv (z4.ext A2)) mk_int, A3⟩
  · cases ha
/-- a value as it was, or an array that moves there -/
def MapOr (G : Gh) (h : Heap) (w : World) (k i : Nat) (m : Option Nat) (u : Value) (c : PV) : Prop :=
  match m with
  | some k2 => ∃ ns, c = .uslc ns ∧ NRep G w (root k2) u ns
  | none => MRep G h w k i u c
/-- WHAT A MAP HOLDS IS CHANGED; arrays that were given up may have moved into it -/
theorem map_update (hr : HRep B Z0 G h w) {k g : Nat} {ks vs ks' vs' : List PV} {es es' : Array MapEntry} {mk : Nat → Nat → Option Nat} (hh : h[k]? = some (g, .mp false ks vs)) (hb : w.heap[G.β (root k)]? = some (.map es es.size))
    (hm1 : ∀ i j k2, mk i j = some k2 → k2 ≠ k ∧ (∃ g2, h[k2]? = some (g2, .dead)) ∧ (G.R (root k2) → ¬ G.Z (G.β (root k2)))) (hm2 : ∀ i j i' j' k2, mk i j = some k2 → mk i' j' = some k2 → i = i' ∧ j = j')
    (h1 : KeysV es' ks') (h2 : ks'.length = vs'.length)
    (h3 : ∀ (i : Nat) c, vs'[i]? = some c → ∃ e, es'[i]? = some e ∧ MapOr G h w k i (mk i 0) e.val c) :
    HRep B Z0 (G.mv k (G.β (root k)) (G.γ (root k)) mk) (h.set k (g, .mp false ks' vs')) { w with heap := w.heap.setIfInBounds (G.β (root k)) (.map es' es'.size) } ∧
      Ext G h w (G.mv k (G.β (root k)) (G.γ (root k)) mk) (h.set k (g, .mp false ks' vs')) { w with heap := w.heap.setIfInBounds (G.β (root k)) (.map es' es'.size) } ∧
      Bl B w { w with heap := w.heap.setIfInBounds (G.β (root k)) (.map es' es'.size) } := by
  have hk : k < h.length := (List.getElem?_eq_some_iff.1 hh).1
  have hob := hr.ob k g _ hh
  unfold ORep at hob
  obtain ⟨hRk, _⟩ := hob
  have hs1 := (heap_set (o' := .map es' es'.size) hb).1
  have hs2 := (heap_set (o' := .map es' es'.size) hb).2
  have hbz : ¬ G.Z (G.β (root k)) := hr.nz k g _ hh rfl none hRk
  have hbB : B ≤ G.β (root k) := (hr.lv _ hRk).1
  have hbne : ∀ key, key ≠ root k → G.R key → G.β key ≠ G.β (root k) := fun key hne hR e => hne (hr.inj _ _ hR hRk e)
  have hbsame : ∀ key, key ≠ root k → G.R key → (w.heap.setIfInBounds (G.β (root k)) (.map es' es'.size))[G.β key]? = w.heap[G.β key]? := fun key hne hR => hs2 _ (hbne key hne hR)
  have hsame : ∀ k' y, k' ≠ k → SameOr G (G.mv k (G.β (root k)) (G.γ (root k)) mk) h k' y := fun k' y hkk => by
    by_cases hmv : y = none ∧ moved mk k'
    · obtain ⟨rfl, i, j, hm⟩ := hmv
      refine .inr ⟨fun hR => ?_, fun g' o' e => ?_⟩
      · have hne : ((k', none) : Key) ≠ root k := fun e => hkk (congrArg Prod.fst e)
        simp only [Gh.mv, if_neg hne] at hR
        exact hR.1 trivial ⟨i, j, hm⟩
      · obtain ⟨g2, h2⟩ := (hm1 i j k' hm).2.1
        rw [h2] at e; cases e; rfl
    · exact .inl (mv_other hkk fun e hm => hmv ⟨e, hm⟩)
  have hroot : SameKey G (G.mv k (G.β (root k)) (G.γ (root k)) mk) (root k) := ⟨by simp [Gh.mv], by simp [Gh.mv, hRk], by simp [Gh.mv], by simp [Gh.mv, srcKey]⟩
  have x : Ext G h w (G.mv k (G.β (root k)) (G.γ (root k)) mk) (h.set k (g, .mp false ks' vs')) { w with heap := w.heap.setIfInBounds (G.β (root k)) (.map es' es'.size) } := by
    refine ⟨fun _ y => y, fun x hx => hs2 x fun e => hbz (e ▸ hx), fun k' gn ob e => ?_⟩
    by_cases hkk : k' = k
    · subst hkk; rw [hh] at e; cases e
      exact ⟨g, _, List.getElem?_set_self hk, Nat.le_refl _, fun _ => ⟨fun _ _ _ _ e' => (by cases e'), fun _ e' => (by cases e'), fun _ _ _ _ => ⟨_, _, _, rfl, hroot⟩⟩⟩
    · refine ⟨gn, ob, by rw [List.getElem?_set_ne (Ne.symm hkk)]; exact e, Nat.le_refl _, fun _ => ?_⟩
      by_cases hd : ob = .dead
      · subst hd; exact Keep.dead _ _
      · exact Keep.refl k' ob ((hsame k' none hkk).resolve_right fun y => hd (y.2 gn ob e)) fun i j => mv_other hkk fun e => by cases e
  refine ⟨hr.update k g _ hk x hsame (fun k' y hkk hR => hbsame _ (fun e => hkk (congrArg Prod.fst e)) hR) (by simp) (fun b' hb' => (hr.zb b' hb').eq (x.zw b' hb')) (fun b hb => .inl hb) (fun _ _ _ _ hn => hn) ?_ (fun e => by cases e) ?_, x, Bl.setMap hbB hb _⟩
  · intro y hR
    cases y with
    | none =>
      have hβ : (G.mv k (G.β (root k)) (G.γ (root k)) mk).β (k, none) = G.β (root k) := by simp [Gh.mv]
      rw [hβ]
      refine ⟨hbB, ⟨_, hs1, rfl⟩, fun _ => hbz, fun y' hR' e => ?_, fun k' y' hkk hR' e => ?_⟩
      · cases y' with
        | none => rfl
        | some ij =>
          obtain ⟨i, j⟩ := ij
          exfalso
          have hne : (nest k i j : Key) ≠ root k := fun e => by simp at e
          simp only [Gh.mv, if_neg hne] at hR' e
          refine hbne _ (fun e2 => ?_) hR'.2 e.symm
          cases hmm : mk i j with
          | none => rw [src_none hmm] at e2; exact hne e2
          | some k2 => rw [src_some hmm] at e2; exact (hm1 i j k2 hmm).1 (congrArg Prod.fst e2)
      · have hne : ((k', y') : Key) ≠ root k := fun e => hkk (congrArg Prod.fst e)
        simp only [Gh.mv, if_neg hne, src_other hkk] at hR' e
        exact hbne _ hne hR'.2 e.symm
    | some ij =>
      obtain ⟨i, j⟩ := ij
      have hne : (nest k i j : Key) ≠ root k := fun e => by simp at e
      have hβ : (G.mv k (G.β (root k)) (G.γ (root k)) mk).β (nest k i j) = G.β (srcKey k mk (nest k i j)) := by simp [Gh.mv]
      simp only [Gh.mv, if_neg hne] at hR
      obtain ⟨_, hR⟩ := hR
      have hsne : srcKey k mk (nest k i j) ≠ root k := fun e2 => by
        cases hmm : mk i j with
        | none => rw [src_none hmm] at e2; exact hne e2
        | some k2 => rw [src_some hmm] at e2; exact (hm1 i j k2 hmm).1 (congrArg Prod.fst e2)
      show B ≤ (G.mv k (G.β (root k)) (G.γ (root k)) mk).β (nest k i j) ∧ _
      rw [hβ]
      obtain ⟨l1, l2⟩ := hr.lv _ hR
      refine ⟨l1, l2.eq (hbsame _ hsne hR), fun _ => ?_, fun y' hR' e => ?_, fun k' y' hkk hR' e => ?_⟩
      · show ¬ G.Z _
        cases hmm : mk i j with
        | none => rw [src_none hmm] at hR ⊢; exact hr.nz k g _ hh rfl _ hR
        | some k2 => rw [src_some hmm] at hR ⊢; exact (hm1 i j k2 hmm).2.2 hR
      · cases y' with
        | none =>
          exfalso
          have : (G.mv k (G.β (root k)) (G.γ (root k)) mk).β (k, none) = G.β (root k) := by simp [Gh.mv]
          rw [this] at e
          exact hbne _ hsne hR e
        | some ij' =>
          obtain ⟨i', j'⟩ := ij'
          have hne' : (nest k i' j' : Key) ≠ root k := fun e => by simp at e
          have hβ' : (G.mv k (G.β (root k)) (G.γ (root k)) mk).β (nest k i' j') = G.β (srcKey k mk (nest k i' j')) := by simp [Gh.mv]
          simp only [Gh.mv, if_neg hne'] at hR'
          have e' := hr.inj _ _ hR hR'.2 (e.trans hβ')
          cases hmm : mk i j with
          | none =>
            rw [src_none hmm] at e'
            cases hmm' : mk i' j' with
            | none => rw [src_none hmm'] at e'; exact congrArg Prod.snd e'
            | some k2 => rw [src_some hmm'] at e'; simp at e'
          | some k2 =>
            rw [src_some hmm] at e'
            cases hmm' : mk i' j' with
            | none => rw [src_none hmm'] at e'; simp at e'
            | some k3 =>
              rw [src_some hmm'] at e'
              have : k2 = k3 := congrArg Prod.fst e'
              subst this
              obtain ⟨rfl, rfl⟩ := hm2 i j i' j' k2 hmm hmm'
              rfl
      · have hne' : ((k', y') : Key) ≠ root k := fun e => hkk (congrArg Prod.fst e)
        simp only [Gh.mv, if_neg hne', src_other hkk] at hR' e
        have e' := hr.inj _ _ hR hR'.2 (by simpa using e)
        cases hmm : mk i j with
        | none => rw [src_none hmm] at e'; exact hkk (congrArg Prod.fst e').symm
        | some k2 =>
          rw [src_some hmm] at e'
          have h1 : k2 = k' := congrArg Prod.fst e'
          have h2 : none = y' := congrArg Prod.snd e'
          subst h1
          exact hR'.1 h2.symm ⟨i, j, hmm⟩
  · unfold ORep
    rw [hroot.1]
    refine ⟨hroot.2.1.2 hRk, h2, es', hs1, h1, fun i c hc => ?_⟩
    obtain ⟨e, q1, q2⟩ := h3 i c hc
    refine ⟨e, q1, ?_⟩
    cases hmm : mk i 0 with
    | none =>
      rw [hmm] at q2
      exact MRep.ext x (mv_nest hmm) (fun hR => hbsame _ (fun e => by simp at e) hR) q2
    | some k2 =>
      rw [hmm] at q2
      obtain ⟨ns, hc2, q5⟩ := q2
      subst hc2
      unfold MRep
      exact q5.ext x (mv_moved hmm) fun hR => hbsame _ (fun e => (hm1 i 0 k2 hmm).1 (congrArg Prod.fst e)) hR
/-- a value that is put into a map -/
theorem embM_spec (hr : HRep B Z0 G h w) {hide : List Nat} {u : Value} {c d : PV} {ks : List Nat} (hv : VRep G h w D u c) (hk : embM (lkOf h hide) c = some (d, ks)) :
    ∃ G' m, HRep B Z0 G' (upd h (kill (lkOf h hide) ks)) w ∧ Ext G h w G' (upd h (kill (lkOf h hide) ks)) w ∧ Killed G h G' (upd h (kill (lkOf h hide) ks)) ks ∧
      (m = none ∧ (∀ ns, d ≠ .uslc ns) ∧ VRep G' (upd h (kill (lkOf h hide) ks)) w D u d ∨ ∃ k ns, m = some k ∧ d = .uslc ns ∧ NRep G' w (root k) u ns) ∧ ∀ k, m = some k ↔ k ∈ ks := by
  unfold embM at hk
  split at hk
  · rename_i ho
    obtain ⟨G1, mo, e1, e2, e3, e4, e5⟩ := embC_spec hr (fun _ _ => rfl) ho hv (fun _ _ _ _ _ _ => rfl) hk
    refine ⟨G1, mo, e1, e2, e3, ?_, e5⟩
    cases mo with
    | none => exact .inl ⟨rfl, fun ns e => by have := e4.1; rw [e] at this; simp [one] at this, e4.2⟩
    | some k2 => obtain ⟨ns, n1, n2⟩ := e4; exact .inr ⟨k2, ns, rfl, n1, n2⟩
  · split at hk
    · rename_i hmv
      simp only [Option.some.injEq, Prod.mk.injEq] at hk
      obtain ⟨rfl, rfl⟩ := hk
      exact ⟨G, none, hr, Ext.refl, ⟨fun _ _ _ => SameKey.refl _ _, rfl, rfl, fun _ hm => by simp at hm, fun _ hm => by simp at hm, fun _ _ => rfl, fun _ hb => .inl hb⟩, .inl ⟨rfl, mvR_notU hmv, hv⟩, fun k => by simp⟩
    · cases hk
theorem map_put (hr : HRep B Z0 G h w) {hide : List Nat} {k g N : Nat} {ks vs ks' vs' : List PV} {es es' : Array MapEntry} {v : Value} {pv d : PV} {kl : List Nat} (hh : h[k]? = some (g, .mp false ks vs)) (hb : w.heap[G.β (root k)]? = some (.map es es.size))
    (hv : VRep G h w D v pv) (hemb : embM (lkOf h hide) pv = some (d, kl)) (hkl : k ∉ kl) (hK' : KeysV es' ks') (hl' : ks'.length = vs'.length)
    (hN : ∀ c, vs'[N]? = some c → c = d) (hNe : ∃ e, es'[N]? = some e ∧ e.val = v) (ho : ∀ (j : Nat) c, j ≠ N → vs'[j]? = some c → vs[j]? = some c) (hoe : ∀ (j : Nat) (e : MapEntry), j ≠ N → es[j]? = some e → ∃ e' : MapEntry, es'[j]? = some e' ∧ e'.val = e.val) :
    ∃ G', HRep B Z0 G' (upd h (kill (lkOf h hide) kl ++ [(k, (g, .mp false ks' vs'))])) { w with heap := w.heap.setIfInBounds (G.β (root k)) (.map es' es'.size) } ∧
      Ext G h w G' (upd h (kill (lkOf h hide) kl ++ [(k, (g, .mp false ks' vs'))])) { w with heap := w.heap.setIfInBounds (G.β (root k)) (.map es' es'.size) } ∧ Bl B w { w with heap := w.heap.setIfInBounds (G.β (root k)) (.map es' es'.size) } := by
  obtain ⟨G1, mo, e1, e2, e3, e4, e5⟩ := embM_spec hr hv hemb
  have hh1 : (upd h (kill (lkOf h hide) kl))[k]? = some (g, .mp false ks vs) := (e3.other k hkl).trans hh
  have hb1 : w.heap[G1.β (root k)]? = some (.map es es.size) := by rw [e3.β]; exact hb
  have hob := e1.ob k _ _ hh1
  unfold ORep at hob
  obtain ⟨_, _, es2, hb2, _, hvs1⟩ := hob
  rw [hb1] at hb2
  have : es2 = es := by cases hb2; rfl
  subst this
  obtain ⟨f1, f2, f3⟩ := map_update (mk := fun i j => if i = N ∧ j = 0 then mo else none) e1 hh1 hb1 (es' := es') (ks' := ks') (vs' := vs') (fun i j k2 hm => by
      split at hm
      · have hk2 := (e5 k2).1 hm
        refine ⟨fun e => hkl (e ▸ hk2), e3.dead _ hk2, fun hR hZ => ?_⟩
        obtain ⟨g2, s2, ver2, es3, hl2⟩ := e3.live _ hk2
        rw [e3.R] at hR
        rw [e3.β] at hZ
        rcases e3.z _ hZ with hz | ⟨k3, _, ij, hR3, heq⟩
        · exact hr.nz k2 g2 _ hl2 rfl none hR hz
        · have := hr.inj _ _ hR hR3 heq; simp at this
      · cases hm) (fun i j i' j' k2 h1 h2 => by
      split at h1
      · rename_i a1
        split at h2
        · rename_i a2; exact ⟨a1.1.trans a2.1.symm, a1.2.trans a2.2.symm⟩
        · cases h2
      · cases h1) hK' hl' (fun j c hc => by
      by_cases hij : j = N
      · subst hij
        have hcd := hN c hc
        subst hcd
        obtain ⟨e, a1, a2⟩ := hNe
        refine ⟨e, a1, ?_⟩
        rw [if_pos ⟨rfl, rfl⟩, a2]
        rcases e4 with ⟨rfl, e6, e7⟩ | ⟨k2, ns, rfl, e6, e7⟩
        · exact (mrep_of e6).2 e7
        · exact ⟨ns, e6, e7⟩
      · obtain ⟨e', a1, a2⟩ := hvs1 j c (ho j c hij hc)
        obtain ⟨e2, a3, a4⟩ := hoe j e' hij a1
        refine ⟨e2, a3, ?_⟩
        rw [if_neg (fun e => hij e.1), a4]
        exact a2)
  rw [e3.β] at f1 f2 f3
  have hu : upd h (kill (lkOf h hide) kl ++ [(k, (g, .mp false ks' vs'))]) = (upd h (kill (lkOf h hide) kl)).set k (g, .mp false ks' vs') := by rw [upd_append]; rfl
  rw [hu]
  exact ⟨_, f1, e2.trans f2, f3⟩
/-- an entry is made, or its value is changed -/
theorem snd_mapUpd (hr : HRep B Z0 G h w) {hide : List Nat} {t : TypeId} {n s : Nat} {z pm px pv p : PV} {m x v : Value} {ws : List (Nat × Row)} (ht : mapA P t = some (n, z, s)) (hm : VRep G h w D m pm) (hx : VRep G h w D x px) (hv : VRep G h w D v pv) (ha : mapUpdP (lkOf h hide) n pm px pv = some (p, ws)) :
    Good P B Z0 G h w (do Instr.mapUpdate t m x v; pure Next.skip) p ws := by
  obtain ⟨kt, et, dd, u1, u2, u3, u4, _⟩ := mapA_some ht
  unfold mapUpdP at ha
  split at ha
  case h_2 => cases ha
  rename_i k g
  split at ha
  case h_2 => cases ha
  rename_i g' fr ks vs hlk
  split at ha
  case isFalse => cases ha
  rename_i hc
  obtain ⟨rfl, rfl, c3, c4⟩ := hc
  split at ha
  case h_2 => cases ha
  rename_i d kl hemb
  split at ha
  case isTrue => cases ha
  rename_i hkl
  have hkl : k ∉ kl := by simpa using hkl
  have hh := lk_some hlk (by simp)
  obtain ⟨rfl, hl, es, hb, hK, hvs⟩ := map_at hr hh hm
  obtain ⟨key, hkey⟩ := keyV_of (x := px) (by omega)
  obtain rfl := rep_key hkey hx
  obtain ⟨l1, l2⟩ := hK.list
  split at ha
  · rename_i i hf
    simp only [Option.some.injEq, Prod.mk.injEq] at ha
    obtain ⟨rfl, rfl⟩ := ha
    obtain ⟨_, q⟩ := find_spec (d := dd) hkey (by omega) ks es.toList 0 _ l1 l2 hf
    obtain ⟨_, e, q1, q2, q3⟩ := q i rfl
    obtain ⟨d', hd'⟩ := keyV_isKey hkey
    have q1' : es[i]? = some e := by simpa using q1
    have hrun : (do Instr.mapUpdate t (.map (some (G.β (root k)))) x v; pure Next.skip : Sem Next).run P w = .ok .skip { w with heap := w.heap.setIfInBounds (G.β (root k)) (.map (es.modify i fun e => { e with key := x, val := v }) (es.modify i fun e => { e with key := x, val := v }).size) } := by
      simp [Instr.mapUpdate, run_underlying u1, MapKept.run_getObj_map hb, run_ck u2 (by omega), MapKept.run_findKey u2 q3, q1', q2, MapKept.run_keyThatStays hd', MapKept.run_setObj_map _ hb, Result.andThen]
    obtain ⟨G', w1, w2, w3⟩ := map_put hr (N := i) (es' := es.modify i fun e => { e with key := x, val := v }) (ks' := ks) (vs' := vs.set i d) hh hb hv hemb hkl (hK.modify i _ (fun e' he' => by rw [q1'] at he'; cases he'; exact q2.symm) (fun _ => rfl)) (by rw [List.length_set]; exact hl) (fun c hc => by
      have hil : i < vs.length := by have := (List.getElem?_eq_some_iff.1 hc).1; simpa using this
      rw [List.getElem?_set_self hil] at hc
      cases hc; rfl) ⟨{ e with key := x, val := v }, by rw [Array.getElem?_modify, if_pos rfl, q1']; rfl, rfl⟩ (fun j c hj hc => by rw [List.getElem?_set_ne (Ne.symm hj)] at hc; exact hc) (fun j e' hj he' => ⟨e', by rw [Array.getElem?_modify, if_neg (Ne.symm hj)]; exact he', rfl⟩)
    exact ⟨.skip, undef, _, G', hrun, .inr ⟨rfl, rfl⟩, w1, w2, mk_undef, w3⟩
  · rename_i hf
    simp only [Option.some.injEq, Prod.mk.injEq] at ha
    obtain ⟨rfl, rfl⟩ := ha
    obtain ⟨q, _⟩ := find_spec (d := dd) hkey (by omega) ks es.toList 0 _ l1 l2 hf
    have hrun : (do Instr.mapUpdate t (.map (some (G.β (root k)))) x v; pure Next.skip : Sem Next).run P w = .ok .skip { w with heap := w.heap.setIfInBounds (G.β (root k)) (.map (es.push { key := x, val := v, born := es.size }) (es.push { key := x, val := v, born := es.size }).size) } := by
      simp [Instr.mapUpdate, run_underlying u1, MapKept.run_getObj_map hb, run_ck u2 (by omega), MapKept.run_findKey u2 (q rfl), MapKept.run_setObj_map _ hb, Result.andThen]
    obtain ⟨G', w1, w2, w3⟩ := map_put hr (N := es.size) (es' := es.push { key := x, val := v, born := es.size }) (ks' := ks ++ [px]) (vs' := vs ++ [d]) hh hb hv hemb hkl (hK.push hkey) (by simp [hl]) (fun c hc => by
      rw [hK.1, hl, List.getElem?_append_right (Nat.le_refl _), Nat.sub_self] at hc
      cases hc; rfl) ⟨{ key := x, val := v, born := es.size }, by simp, rfl⟩ (fun j c hj hc => by
      by_cases hj2 : j < vs.length
      · rw [List.getElem?_append_left hj2] at hc; exact hc
      · have := (List.getElem?_eq_some_iff.1 hc).1
        have h1 := hK.1
        simp at this; omega) (fun j e' hj he' => by
      have hje : j < es.size := (Array.getElem?_eq_some_iff.1 he').1
      exact ⟨e', by rw [Array.getElem?_push_lt hje, ← he']; exact (Array.getElem?_eq_getElem _).symm, rfl⟩)
    exact ⟨.skip, undef, _, G', hrun, .inr ⟨rfl, rfl⟩, w1, w2, mk_undef, w3⟩
  · cases ha
theorem heap_put_same {o : Obj} {b : Nat} (hb : w.heap[b]? = some o) : ({ w with heap := w.heap.setIfInBounds b o } : World) = w := by
  have : w.heap.setIfInBounds b o = w.heap := by
    apply Array.ext_getElem?
    intro i
    by_cases hi : i = b
    · subst hi; rw [(heap_set hb).1, hb]
    · exact (heap_set hb).2 i hi
  rw [this]
/-- .. an entry that is appended to is looked up: the array in it is taken out -/
theorem snd_lookupT (hr : HRep B Z0 G h w) {hide : List Nat} {t : TypeId} {n s k3 sz : Nat} {z pm px p : PV} {m x : Value} {ws : List (Nat × Row)} (ht : mapA P t = some (n, z, s)) (hsz : 0 < sz) (hk3 : k3 < h.length ∧ hide.contains k3 = false) (hm : VRep G h w D m pm) (hx : VRep G h w D x px) (ha : lookTP (lkOf h hide) k3 n sz z pm px = some (p, ws)) :
    Good P B Z0 G h w (do pure (.value (← Instr.lookup t m x false))) p ws := by
  unfold lookTP at ha
  split at ha
  case h_2 => cases ha
  rename_i k g
  split at ha
  case h_2 => cases ha
  rename_i g' fr ks vs hlk
  split at ha
  case isFalse => cases ha
  rename_i hc
  obtain ⟨rfl, c3, c4, hne⟩ := hc
  have hh := lk_some hlk (by simp)
  have hkl : k < h.length := (List.getElem?_eq_some_iff.1 hh).1
  obtain ⟨rfl, hl, es, hb, hK, hvs⟩ := map_at hr hh hm
  have plain : ∀ {q : Eff}, lookR n false z px ks vs = some q → Good P B Z0 G h w (do pure (.value (← Instr.lookup t (.map (some (G.β (root k)))) x false))) q.1 q.2 := fun {q} hq =>
    run_lookup (p := q.1) (ws := q.2) hr ht (.inr ⟨_, rfl, hb⟩) hx hK (fun i c hc hmv => by obtain ⟨e, a1, a2⟩ := hvs i c hc; exact ⟨e, a1, (mrep_of (mvR_notU hmv)).1 a2⟩) hq
  split at ha
  · rename_i i hf
    split at ha
    · rename_i ns hns
      split at ha
      case isFalse => cases ha
      rename_i hfr
      subst hfr
      split at ha
      case h_2 => cases ha
      rename_i g3 hlk3
      split at ha
      case isFalse => cases ha
      rename_i hcn
      obtain ⟨hn0, hszo⟩ := hcn
      simp only [Option.some.injEq, Prod.mk.injEq] at ha
      obtain ⟨rfl, rfl⟩ := ha
      obtain ⟨kt, et, d, u1, u2, u3, u4, u5⟩ := mapA_some ht
      obtain ⟨key, hkey⟩ := keyV_of (x := px) (by omega)
      obtain rfl := rep_key hkey hx
      obtain ⟨l1, l2⟩ := hK.list
      obtain ⟨_, q⟩ := find_spec (d := d) hkey (by omega) ks es.toList 0 _ l1 l2 hf
      obtain ⟨_, e, q1, q2, q3⟩ := q i rfl
      have q1' : es[i]? = some e := by simpa using q1
      have hft := MapKept.run_findKey (P := P) (w := w) u2 q3
      have hrun : (Instr.lookup t (.map (some (G.β (root k)))) x false).run P w = .ok e.val w := by
        simp [Instr.lookup, run_underlying u1, MapKept.run_getObj_map hb, run_ck u2 (by omega), hft, Result.andThen]
      have hh3 : h[k3]? = some (g3, .dead) := by
        unfold lkOf at hlk3
        rw [if_neg (by rw [hk3.2]; simp), List.getD_eq_getElem?_getD, List.getElem?_eq_getElem hk3.1] at hlk3
        rw [List.getElem?_eq_getElem hk3.1]; exact congrArg some hlk3
      obtain ⟨e0, e01, e02⟩ := hvs i _ hns
      have : e0 = e := by rw [q1'] at e01; exact (Option.some.inj e01).symm
      subst this
      have hil : i < vs.length := (List.getElem?_eq_some_iff.1 hns).1
      unfold MRep at e02
      have hN := e02
      unfold NRep at e02
      have hRn : G.R (nest k i 0) := Classical.byContradiction fun hn => by
        have := (e02.2 hn).2
        subst this; simp at hn0
      obtain ⟨us2, T2, f, c, v1, n2, n3, n4, n5, n6, n7, n8, n9⟩ := e02.1 hRn
      obtain ⟨A1, A2, A3⟩ := map_write hr hh hb (es' := es) (ks' := ks) (vs' := vs.set i .any) hK (by rw [List.length_set]; exact hl) (fun j c hc => by
        by_cases hij : i = j
        · subst hij
          rw [List.getElem?_set_self hil] at hc
          cases hc
          refine ⟨e0, q1', ?_⟩
          unfold MRep D; unfold VRep
          rw [v1]; exact ⟨rfl, rfl⟩
        · rw [List.getElem?_set_ne hij] at hc
          exact hvs j c hc)
      rw [heap_put_same hb] at A1 A2
      have hσ : G.σ (nest k i 0) = sz := by
        have q := (n9 0 ns[0] (List.getElem?_eq_getElem hn0)).1
        have := List.all_eq_true.1 hszo ns[0] (List.getElem_mem hn0)
        simp at this
        omega
      rw [hσ] at n7
      have hh1 : (h.set k (g', .mp false ks (vs.set i .any)))[k]? = some (g', .mp false ks (vs.set i .any)) := List.getElem?_set_self hkl
      obtain ⟨B1, B2⟩ := drp_map (i := i) A1 hh1 (fun ns' e => by rw [List.getElem?_set_self hil] at e; cases e)
      have hh3' : (h.set k (g', .mp false ks (vs.set i .any)))[k3]? = some (g3, .dead) := by rw [List.getElem?_set_ne hne]; exact hh3
      obtain ⟨C1, C2⟩ := own_block B1 (us := us2) (T := T2) (b := G.β (nest k i 0)) (γ0 := G.γ (nest k i 0)) (sz := sz) (ns := ns) hh3' (hr.lv _ hRn).1 (hr.nz k g' _ hh rfl _ hRn) (fun key hk e => hk.1 (hr.inj _ _ hk.2 hRn e)) n6 (by omega) n5 hsz n7 (fun a e hae => by
        obtain ⟨r1, r2⟩ := n9 a e hae
        rw [hσ] at r1 r2
        exact ⟨r1, fun j cc hcc => r2 j cc hcc⟩)
      refine ⟨.value e0.val, _, w, _, by simp [hrun, Result.andThen], .inl rfl, C1, A2.trans (B2.trans C2), ?_, Bl.refl _ _⟩
      rw [v1]
      unfold D; unfold VRep
      refine ⟨_, c, rfl, n3, by omega, .inr ⟨_, _, rfl⟩, g3 + 1, _, List.getElem?_set_self (by simpa using hk3.1), Nat.le_refl _, fun _ sz' vr fr' es' e => ?_⟩
      cases e
      exact ⟨Nat.le_refl _, fun _ => ⟨by omega, fun _ => ⟨f, by simp [Gh.own3], n2.imp id fun h _ => by omega, by omega, by simp [Gh.own3]; omega⟩, fun hn => absurd (.inl rfl) hn⟩⟩
    · rename_i c hcn hcv
      split at ha
      case isFalse => cases ha
      rename_i hmv
      simp only [Option.some.injEq, Prod.mk.injEq] at ha
      obtain ⟨rfl, rfl⟩ := ha
      exact plain (q := (c, [])) (by unfold lookR; rw [if_pos ⟨c3, c4⟩, hf]; simp only []; rw [hcv]; simp only []; rw [if_pos hmv]; rfl)
    · cases ha
  · rename_i hf
    simp only [Option.some.injEq, Prod.mk.injEq] at ha
    obtain ⟨rfl, rfl⟩ := ha
    exact plain (q := (z, [])) (by unfold lookR; rw [if_pos ⟨c3, c4⟩, hf]; rfl)
  · cases ha
/-- the value of an entry is put back -/
theorem snd_entryStore (hr : HRep B Z0 G h w) {hide : List Nat} {t : TypeId} {pm pi pv p : PV} {m i v : Value} {ws : List (Nat × Row)} (hm : VRep G h w D m pm) (hi : VRep G h w D i pi) (hv : VRep G h w D v pv) (ha : entryStP (lkOf h hide) pm pi pv = some (p, ws)) :
    Good P B Z0 G h w (do Instr.entryStore t m i v; pure Next.skip) p ws := by
  unfold entryStP at ha
  split at ha
  case h_2 => cases ha
  rename_i k g ik n
  split at ha
  case h_2 => cases ha
  rename_i g' fr ks vs hlk
  split at ha
  case isFalse => cases ha
  rename_i hc
  obtain ⟨rfl, rfl, rfl, c4, c5, c6⟩ := hc
  split at ha
  case h_2 => cases ha
  rename_i d kl hemb
  split at ha
  case isTrue => cases ha
  rename_i hkl
  simp only [Option.some.injEq, Prod.mk.injEq] at ha
  obtain ⟨rfl, rfl⟩ := ha
  have hkl : k ∉ kl := by simpa using hkl
  have hh := lk_some hlk (by simp)
  obtain ⟨rfl, hl, es, hb, hK, hvs⟩ := map_at hr hh hm
  obtain rfl := rep_int hi
  obtain ⟨N, rfl⟩ : ∃ N : Nat, n = (N : Int) := ⟨n.toNat, by omega⟩
  simp only [Int.toNat_natCast] at c5 ⊢
  have hNe : N < es.size := by rw [hK.1]; omega
  obtain ⟨G1, mo, e1, e2, e3, e4, e5⟩ := embC_spec hr (fun _ _ => rfl) c6 hv (fun _ _ _ _ _ _ => rfl) hemb
  have hh1 : (upd h (kill (lkOf h hide) kl))[k]? = some (g', .mp false ks vs) := (e3.other k hkl).trans hh
  have hb1 : w.heap[G1.β (root k)]? = some (.map es es.size) := by rw [e3.β]; exact hb
  have hfind : es.findIdx? (fun e => (e.born : Int) == (N : Int)) = some N := by
    rw [Array.findIdx?_eq_some_iff_getElem]
    refine ⟨hNe, ?_, fun j hj => ?_⟩
    · have := lookBorn hK (Array.getElem?_eq_getElem hNe); simp [this]
    · have := lookBorn hK (Array.getElem?_eq_getElem (show j < es.size by omega)); simp [this]; omega
  have hrun : (do Instr.entryStore t (.map (some (G.β (root k)))) (.int .i64 N) v; pure Next.skip : Sem Next).run P w = .ok .skip { w with heap := w.heap.setIfInBounds (G.β (root k)) (.map (es.modify N fun e => { e with val := v }) (es.modify N fun e => { e with val := v }).size) } := by
    simp [Instr.entryStore, MapKept.run_getObj_map hb, Go.asInt, asIntOf, hfind, MapKept.run_setObj_map _ hb, Result.andThen]
  have hget : ∀ j (e' : MapEntry), es[j]? = some e' → (es.modify N fun e => { e with val := v })[j]? = some (if N = j then { e' with val := v } else e') := fun j e' he' => by
    rw [Array.getElem?_modify]
    by_cases hij : N = j
    · rw [if_pos hij, if_pos hij, he']; rfl
    · rw [if_neg hij, if_neg hij, he']
  have hob := e1.ob k _ _ hh1
  unfold ORep at hob
  obtain ⟨_, _, es2, hb2, _, hvs1⟩ := hob
  rw [hb1] at hb2
  have : es2 = es := by cases hb2; rfl
  subst this
  obtain ⟨f1, f2, f3⟩ := map_update (mk := fun i j => if i = N ∧ j = 0 then mo else none) e1 hh1 hb1 (es' := es2.modify N fun e => { e with val := v }) (ks' := ks) (vs' := vs.set N d) (fun i j k2 hm => by
      split at hm
      · have hk2 := (e5 k2).1 hm
        refine ⟨fun e => hkl (e ▸ hk2), e3.dead _ hk2, fun hR hZ => ?_⟩
        obtain ⟨g2, s2, ver2, es3, hl2⟩ := e3.live _ hk2
        rw [e3.R] at hR
        rw [e3.β] at hZ
        rcases e3.z _ hZ with hz | ⟨k3, _, ij, hR3, heq⟩
        · exact hr.nz k2 g2 _ hl2 rfl none hR hz
        · have := hr.inj _ _ hR hR3 heq; simp at this
      · cases hm) (fun i j i' j' k2 h1 h2 => by
      split at h1
      · rename_i a1
        split at h2
        · rename_i a2; exact ⟨a1.1.trans a2.1.symm, a1.2.trans a2.2.symm⟩
        · cases h2
      · cases h1) (hK.modify N _ (fun _ _ => rfl) (fun _ => rfl)) (by rw [List.length_set]; exact hl) (fun j c hc => by
      by_cases hij : N = j
      · subst hij
        rw [List.getElem?_set_self c5] at hc
        cases hc
        refine ⟨_, hget N _ (Array.getElem?_eq_getElem hNe), ?_⟩
        rw [if_pos rfl, if_pos ⟨rfl, rfl⟩]
        cases mo with
        | none => exact (mrep_of (fun ns e => by have := e4.1; rw [e] at this; simp [one] at this)).2 e4.2
        | some k2 => exact e4
      · rw [List.getElem?_set_ne hij] at hc
        obtain ⟨e', a1, a2⟩ := hvs1 j c hc
        refine ⟨_, hget j e' a1, ?_⟩
        rw [if_neg hij, if_neg (fun e => hij e.1.symm)]
        exact a2)
  rw [e3.β] at f1 f2 f3
  have hu : upd h (kill (lkOf h hide) kl ++ [(k, (g', .mp false ks (vs.set N d)))]) = (upd h (kill (lkOf h hide) kl)).set k (g', .mp false ks (vs.set N d)) := by rw [upd_append]; rfl
  refine ⟨.skip, undef, { w with heap := w.heap.setIfInBounds (G.β (root k)) (.map (es2.modify N fun e => { e with val := v }) (es2.modify N fun e => { e with val := v }).size) }, G1.mv k (G.β (root k)) (G1.γ (root k)) fun i j => if i = N ∧ j = 0 then mo else none, hrun, .inr ⟨rfl, rfl⟩, ?_⟩
  rw [hu]
  exact ⟨f1, e2.trans f2, mk_undef, f3⟩
end
end Go.Proofs.Ytgdcogoacnghkaa.Am
