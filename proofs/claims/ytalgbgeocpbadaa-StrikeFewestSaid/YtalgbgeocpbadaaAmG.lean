/-
  .. values that are put together.
-/
import Derived.Test.YtalgbgeocpbadaaAmF
namespace Go.Proofs.Ytalgbgeocpbadaa.Am
set_option linter.unusedSimpArgs false
set_option linter.unusedVariables false
set_option linter.unusedSectionVars false
open Go.RowKit
theorem setAll_spec : ∀ (ds cs : List PV) (off : Nat), off + ds.length ≤ cs.length → (setAll cs off ds).length = cs.length ∧ ∀ t, (setAll cs off ds)[t]? = if off ≤ t ∧ t < off + ds.length then ds[t - off]? else cs[t]?
  | [], cs, off, _ => ⟨rfl, fun t => by rw [if_neg (by simp)]; rfl⟩
  | d :: ds, cs, off, h => by
    simp only [List.length_cons] at h
    obtain ⟨h1, h2⟩ := setAll_spec ds (cs.set off d) (off + 1) (by simp; omega)
    refine ⟨by simp [setAll, h1], fun t => ?_⟩
    simp only [setAll, h2, List.length_cons]
    by_cases ht : t = off
    · subst ht
      rw [if_neg (by omega), if_pos (by omega), List.getElem?_set_self (by omega)]; simp
    · by_cases h3 : off + 1 ≤ t ∧ t < off + 1 + ds.length
      · rw [if_pos h3, if_pos (by omega), show t - off = (t - (off + 1)) + 1 by omega]; rfl
      · rw [if_neg h3, if_neg (by omega), List.getElem?_set_ne (Ne.symm ht)]
theorem foldset_spec (off : Nat) : ∀ (vs : List Value) (n : Nat) (A : Array Value), off + n + vs.length ≤ A.size →
    (((vs.zipIdx n).foldl (fun (cs : Array Value) (x : Value × Nat) => cs.setIfInBounds (off + x.2) x.1) A).size = A.size ∧
      ∀ t, ((vs.zipIdx n).foldl (fun (cs : Array Value) (x : Value × Nat) => cs.setIfInBounds (off + x.2) x.1) A)[t]? = if off + n ≤ t ∧ t < off + n + vs.length then vs[t - (off + n)]? else A[t]?)
  | [], n, A, _ => ⟨rfl, fun t => by rw [if_neg (by simp)]; rfl⟩
  | v :: vs, n, A, h => by
    simp only [List.length_cons] at h
    obtain ⟨h1, h2⟩ := foldset_spec off vs (n + 1) (A.setIfInBounds (off + n) v) (by simp; omega)
    simp only [List.zipIdx_cons, List.foldl_cons]
    refine ⟨by rw [h1]; simp, fun t => ?_⟩
    rw [h2]
    simp only [List.length_cons]
    by_cases ht : t = off + n
    · subst ht
      rw [if_neg (by omega), if_pos (by omega), Array.getElem?_setIfInBounds]; simp; omega
    · by_cases h3 : off + (n + 1) ≤ t ∧ t < off + (n + 1) + vs.length
      · rw [if_pos h3, if_pos (by omega), show t - (off + n) = (t - (off + (n + 1))) + 1 by omega]; rfl
      · rw [if_neg h3, if_neg (by omega), Array.getElem?_setIfInBounds_ne (Ne.symm ht)]
theorem foldset_arr (off : Nat) (V A : Array Value) (h : off + V.size ≤ A.size) :
    (V.zipIdx.foldl (fun (cs : Array Value) (x : Value × Nat) => cs.setIfInBounds (off + x.2) x.1) A).size = A.size ∧
      ∀ t, (V.zipIdx.foldl (fun (cs : Array Value) (x : Value × Nat) => cs.setIfInBounds (off + x.2) x.1) A)[t]? = if off ≤ t ∧ t < off + V.size then V[t - off]? else A[t]? := by
  have := foldset_spec off V.toList 0 A (by simpa using h)
  rw [← Array.foldl_toList, Array.toList_zipIdx]
  simpa using this
section
variable {P : Program} {B : Nat} {Z0 : Nat → Prop} {G : Gh} {h : Heap} {w : World}
/-- the cells of a value -/
theorem vcells {v : Value} {p : PV} (hv : VRep G h w D v p) (ho : (ecells p).all one = true) : LRep (fun u c => one c = true ∧ VRep G h w D u c) v.cells (ecells p) := by
  cases p
  case agg cs =>
    obtain ⟨vs, rfl, h1, h2⟩ := rep_agg hv
    refine ⟨h1, fun i c hc => ?_⟩
    obtain ⟨u, h3, h4⟩ := h2 i c hc
    exact ⟨u, h3, List.all_eq_true.1 ho c (List.mem_of_getElem? hc), h4.up⟩
  case tup | fn | undef | uslc => simp [ecells, one] at ho
  all_goals
    have hc : v.cells = #[v] := by
      have hv' := hv
      unfold D at hv'; unfold VRep at hv'
      first
        | (subst hv'; rfl)
        | (obtain ⟨rfl, hl⟩ := hv'; cases v <;> first | rfl | (simp [litOk] at hl))
        | (obtain ⟨a, c, sz, rfl, _⟩ := PR.slc_iff.1 hv'; rfl)
        | (obtain ⟨a, c, rfl, _⟩ := hv'; rfl)
        | (obtain ⟨a, rfl, _⟩ := hv'; rfl)
    rw [hc]
    refine ⟨rfl, fun i c hi => ?_⟩
    have : i = 0 := by have := (List.getElem?_eq_some_iff.1 hi).1; simp [ecells] at this; exact this
    subst this
    simp [ecells] at hi
    subst hi
    exact ⟨v, rfl, rfl, hv⟩
theorem oneCell_of {u : Value} {c : PV} (ho : one c = true) (hv : VRep G h w D u c) : u.oneCell' = true := by
  cases c <;> (try (simp [one] at ho; done)) <;>
    (unfold D at hv; unfold VRep at hv
     first
      | (subst hv; rfl)
      | (obtain ⟨rfl, hl⟩ := hv; cases u <;> first | rfl | (simp [litOk] at hl))
      | (obtain ⟨a, c, sz, rfl, _⟩ := PR.slc_iff.1 hv; rfl)
      | (obtain ⟨a, c, rfl, _⟩ := hv; rfl)
      | (obtain ⟨a, rfl, _⟩ := hv; rfl))
theorem ofC_rep {v : Value} {p : PV} (hk : ofC v = some p) : one p = true ∧ VRep G h w D v p := by
  unfold ofC at hk
  split at hk <;> (try cases hk)
  · exact ⟨rfl, mk_bool⟩
  · exact ⟨rfl, mk_int⟩
  · exact ⟨rfl, mk_str⟩
  · exact ⟨rfl, by unfold D; unfold VRep; exact ⟨rfl, rfl⟩⟩
  · exact ⟨rfl, mk_nils⟩
  · exact ⟨rfl, by unfold D; unfold VRep; exact ⟨rfl, rfl⟩⟩
  · exact ⟨rfl, by unfold D; unfold VRep; exact ⟨rfl, rfl⟩⟩
  · exact ⟨rfl, by unfold D; unfold VRep; exact ⟨rfl, rfl⟩⟩
theorem ofCs_rep : ∀ {l : List Value} {ps : List PV}, ofCs l = some ps → l.length = ps.length ∧ ps.all one = true ∧ ∀ (i : Nat) c, ps[i]? = some c → ∃ u, l[i]? = some u ∧ VRep G h w D u c
  | [], ps, hk => by simp [ofCs] at hk; subst hk; exact ⟨rfl, rfl, fun i c hc => by simp at hc⟩
  | v :: l, ps, hk => by
    simp only [ofCs] at hk
    split at hk
    · rename_i a b h1 h2
      cases hk
      obtain ⟨h3, h4⟩ := ofC_rep (G := G) (h := h) (w := w) h1
      obtain ⟨h5, h6, h7⟩ := ofCs_rep h2
      refine ⟨by simp [h5], by simp [h3, h6], fun i c hc => ?_⟩
      cases i with
      | zero => simp at hc; subst hc; exact ⟨v, rfl, h4⟩
      | succ i => exact h7 i c (by simpa using hc)
    · cases hk
theorem ofV_rep {v : Value} {p : PV} (hk : ofV v = some p) : VRep G h w D v p ∧ (ecells p).all one = true := by
  unfold ofV at hk
  split at hk
  · rename_i cs
    obtain ⟨ps, h1, rfl⟩ := Option.map_eq_some_iff.1 hk
    obtain ⟨h2, h3, h4⟩ := ofCs_rep (G := G) (h := h) (w := w) h1
    refine ⟨mk_agg ⟨by simpa using h2, fun i c hc => ?_⟩, h3⟩
    obtain ⟨u, h5, h6⟩ := h4 i c hc
    exact ⟨u, by simpa using h5, one_cell (List.all_eq_true.1 h3 c (List.mem_of_getElem? hc)) h6⟩
  · obtain ⟨h1, h2⟩ := ofC_rep (G := G) (h := h) (w := w) hk
    refine ⟨h2, ?_⟩
    cases p <;> first | (simpa [ecells] using h1) | (simp [one] at h1)
theorem zeroA_some {t : TypeId} {z : PV} (hk : zeroA P t = some z) : ∃ i v, P.info? t = some i ∧ i.zero = some v ∧ ofV v = some z := by
  unfold zeroA at hk
  split at hk
  · rename_i i hi
    split at hk
    · rename_i v hv; exact ⟨i, v, hi, hv, hk⟩
    · cases hk
  · cases hk
theorem run_zero {t : TypeId} {i : TypeInfo} {v : Value} (h1 : P.info? t = some i) (h2 : i.zero = some v) : (zeroValue t).run P w = .ok v w := by simp [zeroValue, typeInfo, h1, h2]

theorem snd_part {t : TypeId} {agg : Bool} {sz off : Nat} {vs : Array Value} {cs : List PV} {r : PV} (hi : infoA P t = some agg) (hs : sizeA P t = some sz) (hv : LRep (VRep G h w 5) vs cs) (hk : takeE agg sz cs off = some r) :
    ∃ u, (part t vs off).run P w = .ok u w ∧ VRep G h w D u r := by
  obtain ⟨i, hi1, rfl⟩ := sizeA_some hs
  unfold infoA at hi
  cases agg with
  | false =>
    simp only [takeE, Bool.false_eq_true, if_false] at hk
    obtain ⟨u, h1, h2⟩ := hv.2 off r hk
    refine ⟨u, ?_, h2.up⟩
    have : (isAgg t).run P w = .ok false w := by
      unfold isAgg
      split at hi
      · simp at hi
      · simp at hi
      · rename_i d g1 g2 hu
        simp only [Sem.run_bind, run_underlying hu, Result.andThen_ok]
        cases d <;> first | rfl | exact absurd rfl (g1 _) | exact absurd rfl (g2 _ _)
      · simp at hi
    simp [part, this, h1]
  | true =>
    simp only [takeE, if_true] at hk
    split at hk
    · rename_i hle
      cases hk
      have : (isAgg t).run P w = .ok true w := by
        unfold isAgg
        split at hi
        · rename_i hu; simp [run_underlying hu]
        · rename_i hu; simp [run_underlying hu]
        · simp at hi
        · simp at hi
      refine ⟨.agg (vs.extract off (off + i.size)), by simp [part, this, sizeOf, typeInfo, hi1], mk_agg ⟨?_, fun j c hc => ?_⟩⟩
      · simp [hv.1]; omega
      · have hj : j < i.size := by have := (List.getElem?_eq_some_iff.1 hc).1; simp at this; omega
        rw [List.getElem?_take, if_pos hj, List.getElem?_drop] at hc
        obtain ⟨u, h1, h2⟩ := hv.2 _ c hc
        refine ⟨u, ?_, h2⟩
        rw [Array.getElem?_extract, if_pos (by rw [hv.1]; omega)]; exact h1
    · cases hk
/-- the parts of a value, one after the other -/
inductive Parts (G : Gh) (h : Heap) (w : World) (place : Nat → Option (Nat × Nat)) : List (Nat × Value) → List (Nat × Nat × PV) → Prop
  | nil : Parts G h w place [] []
  | cons {i off sz v p l m} : place i = some (off, sz) → VRep G h w D v p → Parts G h w place l m → Parts G h w place ((i, v) :: l) ((off, sz, p) :: m)
theorem fill_rep {place : Nat → Option (Nat × Nat)} {R : Value → PV → Prop} (hR : ∀ u c, one c = true → VRep G h w D u c → R u c) {parts : List (Nat × Value)} {xs : List (Nat × Nat × PV)} (hp : Parts G h w place parts xs) : ∀ {A : Array Value} {cs cs' : List PV}, LRep R A cs → buildP cs xs = some cs' →
    ∃ A', Instr.fill place A parts = some A' ∧ LRep R A' cs' := by
  induction hp with
  | nil => intro A cs cs' hA hk; simp [buildP] at hk; subst hk; exact ⟨A, rfl, hA⟩
  | @cons i off sz v p l m h1 h2 h3 ih =>
    intro A cs cs' hA hk
    simp only [buildP] at hk
    split at hk
    · rename_i hc
      obtain ⟨c1, c2, c3⟩ := hc
      have hvc := vcells h2 c3
      have hsz : v.cells.size = sz := by rw [hvc.1, c1]
      obtain ⟨s1, s2⟩ := foldset_arr off v.cells A (by rw [hsz, hA.1]; exact c2)
      obtain ⟨t1, t2⟩ := setAll_spec (ecells p) cs off (by rw [c1]; exact c2)
      have hnew : LRep R (v.cells.zipIdx.foldl (fun (cs : Array Value) (x : Value × Nat) => cs.setIfInBounds (off + x.2) x.1) A) (setAll cs off (ecells p)) := by
        refine ⟨by rw [s1, t1, hA.1], fun t c ht => ?_⟩
        rw [t2] at ht
        rw [s2]
        split at ht
        · rename_i hr
          rw [if_pos (by rw [hsz, ← c1]; exact hr)]
          obtain ⟨u, g1, g2, g3⟩ := hvc.2 _ c ht
          exact ⟨u, g1, hR u c g2 g3⟩
        · rename_i hr
          rw [if_neg (by rw [hsz, ← c1]; exact hr)]
          exact hA.2 t c ht
      obtain ⟨A', h4, h5⟩ := ih hnew hk
      refine ⟨A', ?_, h5⟩
      simp only [Instr.fill, h1]
      have hcond : (decide (v.cells.size ≠ sz) || decide (off + v.cells.size > A.size)) = false := by
        have := hA.1
        simp [hsz]; omega
      simp only [hcond, Bool.false_eq_true, if_false]
      exact h4
    · cases hk
end
end Go.Proofs.Ytalgbgeocpbadaa.Am
