/-
  What comes in, as plain values of a shape; a law's statement out of what its function gives.
-/
import Derived.Test.YtalgbgeocpbadaaAmZ
import Derived.WalkKit
import Derived.ProofKit
import Derived.OpenShut
import Derived.ChangeOld
import Derived.Below
import Derived.Carry
import Derived.Deep.Slices
namespace Go.Proofs.Ytalgbgeocpbadaa.Am
set_option linter.unusedSimpArgs false
set_option linter.unusedVariables false
set_option linter.unusedSectionVars false
open Go.ChangeShapes Go.WideShapes Go.ChangeAt Go.RowKit Go.Deep

inductive Sh where
  | bool
  | int (k : IntKind)
  | str
  | slc (e : Sh)
  | agg (f : Sh)
  | fd (a r : Sh)
  | en
abbrev Sh.T : Sh → Type
  | .bool => Bool
  | .int _ => Int
  | .str => ByteArray
  | .slc e => List e.T
  | .agg f => f.T
  | .fd a r => a.T × r.T
  | .en => Unit
def Sh.pvOf : Sh → List PV → PV
  | .agg _, cs => .agg cs
  | _, cs => cs.headD .undef
def Sh.cells : (s : Sh) → s.T → List PV
  | .bool, b => [.bool b]
  | .int k, n => [.int k n]
  | .str, s => [.str s]
  | .slc e, xs => [.slc (List.map (fun x => e.pvOf (e.cells x)) xs)]
  | .agg f, x => f.cells x
  | .fd a r, x => a.cells x.1 ++ r.cells x.2
  | .en, _ => []
def Sh.pv (s : Sh) (x : s.T) : PV := s.pvOf (s.cells x)
def Sh.ok : (s : Sh) → s.T → Prop
  | .bool, _ => True
  | .int k, n => (Lit.int k n).wf = true
  | .str, s => s.size ≤ maxLen
  | .slc e, xs => List.length xs ≤ maxLen ∧ ∀ x ∈ (show List e.T from xs), e.ok x
  | .agg f, x => f.ok x
  | .fd a r, x => a.ok x.1 ∧ r.ok x.2
  | .en, _ => True
/-- of a list of shapes: the values one by one -/
def Sh.pvs : (s : Sh) → s.T → List PV
  | .fd a r, x => a.pv x.1 :: r.pvs x.2
  | _, _ => []
def shF (P : Program) (chk : TypeId → Sh → Bool) (tot : Nat) : List Field → Nat → Sh → Bool
  | [], acc, .en => acc == tot
  | fd :: fs, acc, .fd a r => fd.offset == acc && chk fd.type a && shF P chk tot fs (acc + P.cellsOf fd.type) r
  | _, _, _ => false
def shA (chk : TypeId → Sh → Bool) (sz tot : Nat) (e : TypeId) : Nat → Nat → Sh → Bool
  | 0, i, .en => i * sz == tot
  | m + 1, i, .fd a r => chk e a && shA chk sz tot e m (i + 1) r
  | _, _, _ => false
def shp (P : Program) : Nat → TypeId → Sh → Bool
  | 0, _, _ => false
  | n + 1, t, s => match P.underlying t, s with
    | some .bool, .bool => true
    | some (.int k), .int k' => decide (k = k')
    | some .string, .str => true
    | some (.slice e), .slc se => shp P n e se && Nat.blt 0 (P.cellsOf e)
    | some (.struct fs), .agg f => shF P (shp P n) (P.cellsOf t) fs.toList 0 f
    | some (.array m e), .agg f => shA (shp P n) (P.cellsOf e) (P.cellsOf t) e m 0 f
    | _, _ => false
def shL (P : Program) (n : Nat) : List TypeId → Sh → Bool
  | [], .en => true
  | t :: ts, .fd a r => shp P n t a && shL P n ts r
  | _, _ => false

def CsRep (Z : Nat → Prop) (w : World) : List Value → List PV → Prop
  | [], [] => True
  | v :: vs, c :: cs => (one c = true ∧ PR Z w v c) ∧ CsRep Z w vs cs
  | _, _ => False
theorem CsRep.len {Z : Nat → Prop} {w : World} : ∀ {vs : List Value} {cs : List PV}, CsRep Z w vs cs → vs.length = cs.length
  | [], [], _ => rfl
  | _ :: vs, _ :: cs, h => by simp [CsRep.len h.2]
  | [], _ :: _, h => h.elim
  | _ :: _, [], h => h.elim
theorem CsRep.get {Z : Nat → Prop} {w : World} : ∀ {vs : List Value} {cs : List PV}, CsRep Z w vs cs → ∀ (i : Nat) c, cs[i]? = some c → one c = true ∧ ∃ u, vs[i]? = some u ∧ PR Z w u c
  | [], [], _, i, c, h => by simp at h
  | v :: vs, c0 :: cs, h, 0, c, hc => by simp at hc; subst hc; exact ⟨h.1.1, v, rfl, h.1.2⟩
  | v :: vs, c0 :: cs, h, i + 1, c, hc => by
    have := CsRep.get h.2 i c (by simpa using hc)
    simpa using this
  | [], _ :: _, h, _, _, _ => h.elim
  | _ :: _, [], h, _, _, _ => h.elim
theorem CsRep.append {Z : Nat → Prop} {w : World} : ∀ {vs us : List Value} {cs ds : List PV}, CsRep Z w vs cs → CsRep Z w us ds → CsRep Z w (vs ++ us) (cs ++ ds)
  | [], _, [], _, _, h => h
  | _ :: _, _, _ :: _, _, h, h' => ⟨h.1, CsRep.append h.2 h'⟩
  | [], _, _ :: _, _, h, _ => h.elim
  | _ :: _, _, [], _, h, _ => h.elim
theorem list_of {α : Type} {p : Nat → α → Prop} : ∀ {n : Nat}, (∀ i, i < n → ∃ x, p i x) → ∃ l : List α, l.length = n ∧ ∀ (i : Nat) x, l[i]? = some x → p i x
  | 0, _ => ⟨[], rfl, by simp⟩
  | n + 1, h => by
    obtain ⟨l, h1, h2⟩ := list_of (n := n) fun i hi => h i (by omega)
    obtain ⟨x, hx⟩ := h n (by omega)
    refine ⟨l ++ [x], by simp [h1], fun i y hy => ?_⟩
    by_cases hi : i < n
    · rw [List.getElem?_append_left (by omega)] at hy; exact h2 i y hy
    · rw [List.getElem?_append_right (by omega)] at hy
      have : i - l.length = 0 := by
        have := (List.getElem?_eq_some_iff.1 hy).1
        simp at this; omega
      rw [this] at hy; simp at hy; subst hy
      have : i = n := by omega
      subst this; exact hx
theorem cell_isC {w : World} {a : Addr} {v : Value} (h : w.cell? a = some v) : isC w a.block := by
  obtain ⟨o, h1, h2⟩ := cells_of_cell h
  cases o <;> first | exact ⟨_, _, _, h1⟩ | cases h2
theorem ecells_pvOf {P : Program} {n : Nat} {t : TypeId} {s : Sh} (h : shp P n t s = true) (x : s.T) : ecells (s.pvOf (s.cells x)) = s.cells x := by
  cases n with
  | zero => simp [shp] at h
  | succ n =>
    cases s <;> simp [Sh.pvOf, Sh.cells, ecells]
    all_goals (simp only [shp] at h; split at h <;> first | contradiction | simp_all)
section
variable {H : Type} {enc : TypeId × Value → H} {P : Program} {w : World} {sp : Nat → Bool}
abbrev Zw (w : World) : Nat → Prop := fun b => isC w b
theorem shF_rep {chk : TypeId → Sh → Bool} {fuel tot : Nat} {cs : List Value} (ih : ∀ (s : Sh) (t : TypeId) (cs : List Value) x, chk t s = true → DataW.trod enc P w 0 sp true fuel t cs = some x → ∃ y : s.T, s.ok y ∧ CsRep (Zw w) w cs (s.cells y)) (hlen : cs.length = tot) :
    ∀ (fs : List Field) (acc : Nat) (f : Sh) (r : List (DataW H × List MemPlace)), shF P chk tot fs acc f = true → fs.mapM (fun g => DataW.trod enc P w 0 sp true fuel g.type ((cs.drop g.offset).take (P.cellsOf g.type))) = some r → ∃ y : f.T, f.ok y ∧ CsRep (Zw w) w (cs.drop acc) (f.cells y)
  | [], acc, f, r, h, _ => by
    cases f <;> simp only [shF] at h <;> first | contradiction | skip
    refine ⟨(), trivial, ?_⟩
    have : acc = tot := by simpa using h
    subst this
    rw [← hlen, List.drop_length]; exact trivial
  | fd :: fs, acc, f, r, h, hm => by
    cases f <;> simp only [shF] at h <;> first | contradiction | skip
    rename_i a rr
    simp only [Bool.and_eq_true, beq_iff_eq] at h
    obtain ⟨⟨h1, h2⟩, h3⟩ := h
    obtain ⟨x, hx⟩ := mapM_each hm fd (by simp)
    rw [List.mapM_cons] at hm
    rw [hx] at hm
    cases hr : fs.mapM (fun g => DataW.trod enc P w 0 sp true fuel g.type ((cs.drop g.offset).take (P.cellsOf g.type))) with
    | none => simp [hr] at hm
    | some r' =>
      obtain ⟨y1, o1, c1⟩ := ih _ _ _ _ h2 hx
      obtain ⟨y2, o2, c2⟩ := shF_rep ih hlen fs _ rr r' h3 hr
      refine ⟨(y1, y2), ⟨o1, o2⟩, ?_⟩
      have := c1.append c2
      rw [h1] at this
      rw [show cs.drop acc = (cs.drop acc).take (P.cellsOf fd.type) ++ cs.drop (acc + P.cellsOf fd.type) by rw [← List.drop_drop, List.take_append_drop]]
      exact this
theorem shA_rep {chk : TypeId → Sh → Bool} {fuel tot : Nat} {e : TypeId} {cs : List Value} (ih : ∀ (s : Sh) (t : TypeId) (cs : List Value) x, chk t s = true → DataW.trod enc P w 0 sp true fuel t cs = some x → ∃ y : s.T, s.ok y ∧ CsRep (Zw w) w cs (s.cells y)) (hlen : cs.length = tot) :
    ∀ (m i : Nat) (f : Sh), shA chk (P.cellsOf e) tot e m i f = true → (∀ j, j < m → ∃ x, DataW.trod enc P w 0 sp true fuel e ((cs.drop ((i + j) * P.cellsOf e)).take (P.cellsOf e)) = some x) → ∃ y : f.T, f.ok y ∧ CsRep (Zw w) w (cs.drop (i * P.cellsOf e)) (f.cells y)
  | 0, i, f, h, _ => by
    cases f <;> simp only [shA] at h <;> first | contradiction | skip
    refine ⟨(), trivial, ?_⟩
    have : i * P.cellsOf e = tot := by simpa using h
    rw [this, ← hlen, List.drop_length]; exact trivial
  | m + 1, i, f, h, hm => by
    cases f <;> simp only [shA] at h <;> first | contradiction | skip
    rename_i a rr
    simp only [Bool.and_eq_true] at h
    obtain ⟨h2, h3⟩ := h
    obtain ⟨x, hx⟩ := hm 0 (by omega)
    obtain ⟨y1, o1, c1⟩ := ih _ _ _ _ h2 hx
    obtain ⟨y2, o2, c2⟩ := shA_rep ih hlen m (i + 1) rr h3 fun j hj => by
      obtain ⟨x, hx⟩ := hm (j + 1) (by omega)
      exact ⟨x, by rw [show i + 1 + j = i + (j + 1) by omega]; exact hx⟩
    refine ⟨(y1, y2), ⟨o1, o2⟩, ?_⟩
    have := c1.append c2
    rw [Nat.add_zero] at this
    rw [show cs.drop (i * P.cellsOf e) = (cs.drop (i * P.cellsOf e)).take (P.cellsOf e) ++ cs.drop ((i + 1) * P.cellsOf e) by rw [Nat.add_mul, Nat.one_mul, ← List.drop_drop, List.take_append_drop]]
    exact this
theorem trod_sh : ∀ (n : Nat) (s : Sh) (t : TypeId) (fuel : Nat) (cs : List Value) (x : DataW H × List MemPlace), shp P n t s = true → DataW.trod enc P w 0 sp true fuel t cs = some x → ∃ y : s.T, s.ok y ∧ CsRep (Zw w) w cs (s.cells y) := by
  intro n
  induction n with
  | zero => intro s t fuel cs x h; simp [shp] at h
  | succ n ih =>
    intro s t fuel cs x h hx
    simp only [shp] at h
    cases fuel with
    | zero => simp [DataW.trod] at hx
    | succ fuel =>
      split at h
      · rename_i hu
        obtain ⟨b, rfl⟩ : ∃ b, cs = [.bool b] := by
          unfold DataW.trod at hx; rw [hu] at hx; split at hx <;> simp_all
        exact ⟨b, trivial, ⟨rfl, 0, rfl⟩, trivial⟩
      · rename_i k k' hu
        obtain rfl : k = k' := by simpa using h
        obtain ⟨m, rfl, hw⟩ : ∃ m, cs = [.int k m] ∧ (Lit.int k m).wf = true := by
          unfold DataW.trod at hx; rw [hu] at hx; split at hx <;> simp_all
        exact ⟨m, hw, ⟨rfl, 0, rfl⟩, trivial⟩
      · rename_i hu
        obtain ⟨b, rfl, hw⟩ : ∃ b, cs = [.string b] ∧ b.size ≤ maxLen := by
          unfold DataW.trod at hx; rw [hu] at hx; split at hx <;> simp_all
        exact ⟨b, hw, ⟨rfl, 0, rfl⟩, trivial⟩
      · rename_i e se hu
        simp only [Bool.and_eq_true] at h
        obtain ⟨h1, h2⟩ := h
        have h2 : 0 < P.cellsOf e := by simpa using h2
        rcases open_slice hu hx with ⟨rfl, _⟩ | ⟨a, len, cap, m, n', D, Pl, rfl, _, hl, hc, hm, _, hel⟩
        · refine ⟨[], ⟨by simp, by simp⟩, ⟨rfl, ?_⟩, trivial⟩
          exact PR.slc_iff.2 ⟨none, 0, 0, by simp, by simp, by simp [maxLen], by simp, by simp⟩
        · have hlm : len ≤ m := by rw [hm]; split <;> omega
          obtain ⟨l, l1, l2⟩ := list_of (α := se.T) (p := fun i y => se.ok y ∧ ∃ cs', w.cells? 0 (a.add (i * P.cellsOf e)) (P.cellsOf e) = some cs' ∧ CsRep (Zw w) w cs' (se.cells y)) (n := len) fun i hi => by
            obtain ⟨cs', e1, e2⟩ := hel i (by omega)
            obtain ⟨y, y1, y2⟩ := ih _ _ _ _ _ h1 e2
            exact ⟨y, y1, cs', e1, y2⟩
          refine ⟨l, ⟨by rw [l1]; omega, fun y hy => ?_⟩, ⟨rfl, ?_⟩, trivial⟩
          · obtain ⟨i, hi⟩ := List.mem_iff_getElem?.1 hy
            exact (l2 i y hi).1
          · refine PR.slc_iff.2 ⟨some a, cap, P.cellsOf e, by simp [l1], by simp [l1]; exact hl, hc, by simp, fun i p hp => ?_⟩
            rw [List.getElem?_map] at hp
            obtain ⟨y, hy, rfl⟩ := Option.map_eq_some_iff.1 hp
            obtain ⟨_, cs', e1, e2⟩ := l2 i y hy
            rw [ecells_pvOf h1]
            unfold World.cells? at e1
            simp only [Nat.zero_le, if_true] at e1
            have hlen' : cs'.length = P.cellsOf e := by rw [mapM_some_length e1, List.length_range]
            have hget : ∀ j, j < P.cellsOf e → w.cell? ((a.add (i * P.cellsOf e)).add j) = cs'[j]? := fun j hj => mapM_some_get e1 j j (by simp [hj])
            have h00 := hget 0 h2
            rw [List.getElem?_eq_getElem (by omega)] at h00
            have hs := World.cell?_spot h00
            have hlt := cell_isC h00
            refine ⟨by rw [← e2.len, hlen'], a.block, a.off, ?_, ?_, fun j c hc => ?_⟩
            · by_cases hi : i * P.cellsOf e = 0
              · rw [hi] at hs; simp [Addr.add] at hs; cases a; simp_all
              · have hi0 : i ≠ 0 := by rintro rfl; simp at hi
                obtain ⟨y0, hy0⟩ : ∃ y0, l[0]? = some y0 := ⟨l[0]'(by have := (List.getElem?_eq_some_iff.1 hy).1; omega), List.getElem?_eq_getElem _⟩
                obtain ⟨_, cs0, f1, _⟩ := l2 0 y0 hy0
                unfold World.cells? at f1
                simp only [Nat.zero_le, if_true] at f1
                have f2 := mapM_some_get f1 0 0 (by simp [h2])
                have f3 : cs0.length = P.cellsOf e := by rw [mapM_some_length f1, List.length_range]
                rw [List.getElem?_eq_getElem (by omega)] at f2
                have := World.cell?_spot f2
                simp [Addr.add] at this; cases a; simp_all
            · have : ((a.add (i * P.cellsOf e)).add 0).block = a.block := by unfold Addr.add; split <;> split <;> rfl
              rw [this] at hlt; exact hlt
            · obtain ⟨g1, u, g2, g3⟩ := e2.get j c hc
              have hj : j < P.cellsOf e := by rw [← hlen']; exact (List.getElem?_eq_some_iff.1 g2).1
              refine ⟨g1, u, ?_, g3⟩
              have hj' := hget j hj
              rw [g2] at hj'
              have hs' := World.cell?_spot hj'
              rw [← hj']
              congr 1
              rw [Go.Deep.add_add] at hs' ⊢
              unfold Addr.add at hs' ⊢
              split
              · rename_i hz; rw [if_pos hz] at hs'; cases a; simp_all
              · rfl
      · rename_i fs f hu
        unfold DataW.trod at hx; rw [hu] at hx
        simp only at hx
        split at hx
        · rename_i hlen
          cases hr : fs.toList.mapM (fun g => DataW.trod enc P w 0 sp true fuel g.type ((cs.drop g.offset).take (P.cellsOf g.type))) with
          | none => rw [hr] at hx; simp at hx
          | some r =>
            obtain ⟨y, y1, y2⟩ := shF_rep (fun s t cs x a b => ih s t fuel cs x a b) hlen _ _ _ r h hr
            exact ⟨y, y1, by simpa [Sh.cells] using y2⟩
        · cases hx
      · rename_i m e f hu
        unfold DataW.trod at hx; rw [hu] at hx
        simp only at hx
        split at hx
        · rename_i hlen
          cases hr : (List.range m).mapM (fun i => DataW.trod enc P w 0 sp true fuel e ((cs.drop (i * P.cellsOf e)).take (P.cellsOf e))) with
          | none => rw [hr] at hx; simp at hx
          | some r =>
            obtain ⟨y, y1, y2⟩ := shA_rep (fun s t cs x a b => ih s t fuel cs x a b) hlen m 0 f h fun j hj => mapM_each hr (0 + j) (by simpa using hj)
            exact ⟨y, y1, by simpa [Sh.cells] using y2⟩
        · cases hx
      · cases h
theorem vrep_pr {Z : Nat → Prop} {v : Value} {c : PV} (h1 : one c = true) (h : PR Z w v c) (n : Nat) : VRep (G0 Z) [] w n v c := by
  obtain ⟨m, h⟩ := h
  cases c <;> first | (simp [one] at h1; done) | (unfold PRep at h; exact h.elim) | skip
  all_goals first | (unfold PRep at h; unfold VRep; exact h) | (unfold VRep; exact ⟨m, h⟩)
theorem csrep_lrep {Z : Nat → Prop} {vs : Array Value} {cs : List PV} (h : CsRep Z w vs.toList cs) (n : Nat) : LRep (VRep (G0 Z) [] w n) vs cs :=
  ⟨by have := h.len; simpa using this, fun i c hc => by
    obtain ⟨h1, u, h2, h3⟩ := h.get i c hc
    exact ⟨u, by simpa using h2, vrep_pr h1 h3 n⟩⟩
theorem arg_sh {n : Nat} {s : Sh} {t : TypeId} {v : Value} {d : DataW H} {ps : List MemPlace} {base : Nat} (hs : shp P n t s = true) (hok : Value.okWide P w .any base t v) (hd : DataW.Trod enc P w 0 sp true t v d ps) : ∃ y : s.T, s.ok y ∧ VRep (G0 (Zw w)) [] w D v (s.pv y) := by
  obtain ⟨fuel, hd⟩ := hd
  obtain ⟨y, y1, y2⟩ := trod_sh n s t fuel _ _ hs hd
  refine ⟨y, y1, ?_⟩
  cases n with
  | zero => simp [shp] at hs
  | succ n =>
    simp only [shp] at hs
    have single : ∀ c, s.cells y = [c] → s.pv y = c → (∀ cs, v ≠ .agg cs) → VRep (G0 (Zw w)) [] w D v (s.pv y) := by
      intro c h1 h2 h3
      have : v.cells.toList = [v] := by cases v <;> first | rfl | exact absurd rfl (h3 _)
      rw [this, h1] at y2
      rw [h2]; exact vrep_pr y2.1.1 y2.1.2 _
    split at hs
    · rename_i hu; exact single _ rfl rfl (by rintro cs rfl; simp [Value.okWide, hu, Cell.okWide, Cell.ok] at hok)
    · rename_i hu; exact single _ rfl rfl (by rintro cs rfl; simp [Value.okWide, hu, Cell.okWide, Cell.ok] at hok)
    · rename_i hu; exact single _ rfl rfl (by rintro cs rfl; simp [Value.okWide, hu, Cell.okWide, Cell.ok] at hok)
    · rename_i hu; exact single _ rfl rfl (by rintro cs rfl; simp [Value.okWide, hu, Cell.okWide, Cell.ok] at hok)
    · rename_i hu
      unfold Value.okWide at hok; rw [hu] at hok
      obtain ⟨cs, rfl, _, _⟩ := hok
      show VRep _ _ _ (5 + 1) _ (.agg _)
      unfold VRep
      exact ⟨cs, rfl, csrep_lrep y2 5⟩
    · rename_i hu
      unfold Value.okWide at hok; rw [hu] at hok
      obtain ⟨cs, rfl, _, _⟩ := hok
      show VRep _ _ _ (5 + 1) _ (.agg _)
      unfold VRep
      exact ⟨cs, rfl, csrep_lrep y2 5⟩
    · cases hs
theorem trodAll_sh {n base : Nat} : ∀ {ts : List TypeId} {F : Sh} {vs : List Value} {ds : List (DataW H)} {ps : List MemPlace}, shL P n ts F = true → (∀ (j : Nat) t v, ts[j]? = some t → vs[j]? = some v → Value.okWide P w .any base t v) → DataW.TrodAll enc P w 0 sp true ts vs ds ps →
    ∃ y : F.T, F.ok y ∧ vs.length = (F.pvs y).length ∧ ∀ (i : Nat) c, (F.pvs y)[i]? = some c → ∃ u, vs[i]? = some u ∧ VRep (G0 (Zw w)) [] w D u c
  | [], F, vs, ds, ps, h, _, ha => by
    cases F <;> simp only [shL] at h <;> first | contradiction | skip
    obtain ⟨rfl, rfl, rfl⟩ := trodAll_nil ha
    exact ⟨(), trivial, rfl, by simp [Sh.pvs]⟩
  | t :: ts, F, vs, ds, ps, h, hok, ha => by
    cases F <;> simp only [shL] at h <;> first | contradiction | skip
    rename_i a r
    simp only [Bool.and_eq_true] at h
    obtain ⟨v, vs', d, ds', p, q, rfl, rfl, rfl, h1, h2⟩ := trodAll_cons ha
    obtain ⟨y1, o1, c1⟩ := arg_sh h.1 (hok 0 t v rfl rfl) h1
    obtain ⟨y2, o2, c2, c3⟩ := trodAll_sh h.2 (fun j t v a b => hok (j + 1) t v (by simpa using a) (by simpa using b)) h2
    refine ⟨(y1, y2), ⟨o1, o2⟩, by simp [Sh.pvs, c2], fun i c hc => ?_⟩
    cases i with
    | zero => simp [Sh.pvs] at hc; subst hc; exact ⟨v, rfl, c1⟩
    | succ i => simp [Sh.pvs] at hc; simpa using c3 i c hc
theorem trodAll_below {w' : World} (hl : laidOutB P = true) (hb : Below w.heap.size w w') : ∀ {ts : List TypeId} {vs : List Value} {ds : List (DataW H)} {ps : List MemPlace}, ts.all (fun t => P.readableRec t && decide (t < P.types.size)) = true → DataW.TrodAll enc P w 0 (fun _ => true) true ts vs ds ps → DataW.TrodAll enc P w' 0 (fun b => decide (b < w.heap.size)) true ts vs ds ps
  | [], vs, ds, ps, _, ha => by
    obtain ⟨rfl, rfl, rfl⟩ := trodAll_nil ha
    rfl
  | t :: ts, vs, ds, ps, h, ha => by
    obtain ⟨v, vs', d, ds', p, q, rfl, rfl, rfl, h1, h2⟩ := trodAll_cons ha
    simp only [List.all_cons, Bool.and_eq_true, decide_eq_true_eq] at h
    have hlt : ∀ x ∈ p, x.block < w.heap.size := by obtain ⟨m, hm⟩ := h1; exact DataW.trod_lt m _ _ _ hm
    exact trodAll_cons_mk (Below.trod hl h.1.1 h.1.2 h1 hb hlt) (trodAll_below hl hb h.2 h2)
end
theorem trodAll_len {H : Type} {enc : TypeId × Value → H} {P : Program} {w : World} {base : Nat} {sp : Nat → Bool} {held : Bool} : ∀ {ts : List TypeId} {vs : List Value} {ds : List (DataW H)} {ps : List MemPlace}, DataW.TrodAll enc P w base sp held ts vs ds ps → ds.length = ts.length
  | [], vs, ds, ps, ha => by obtain ⟨rfl, rfl, rfl⟩ := trodAll_nil ha; rfl
  | t :: ts, vs, ds, ps, ha => by
    obtain ⟨v, vs', d, ds', p, q, rfl, rfl, rfl, h1, h2⟩ := trodAll_cons ha
    simp [trodAll_len h2]
/-- A LAW'S STATEMENT: its function gives true for all values of the arguments' shapes -/
theorem law_lift {C : Checked} {os : Os} {f : FuncId} {fn : Func} {s : ChangeSpec} {F : Sh} {n : Nat} {rt : TypeId} {conds : List PathCond} {apart : Bool} {H : Type} {enc : TypeId × Value → H}
    (own : ownKnob C.prog.godebug = none) (started : os.Started) (laid : laidOutB C.prog = true) (noInit : C.prog.inits.idxOf? f = none) (hfn : C.prog.funcs[f]? = some fn)
    (witness : ∃ (w : World) (tape : Tape) (i : Input), w.os = os ∧ (w.forCall tape i).Shaped C.prog ∧ i.vars = [] ∧ Input.okWide C.prog (w.forCall tape i) .any w.heap.size f i ∧
      s.pre6 enc C.prog fn conds apart (w.forCall tape i).memory i.args ∧ Assume.holds {} C.prog (lone (Frame.enter C.prog f i.args .normal) [] (w.forCall tape i)))
    (hsh : shL C.prog n fn.params.toList F = true) (hread : fn.params.toList.all (fun t => C.prog.readableRec t && decide (t < C.prog.types.size)) = true)
    (hrt : fn.resultTypes = #[rt]) (hb : C.prog.underlying rt = some .bool) (hv : s.vars = [])
    (hspec : ∀ ds : List (DataW H), ds.length = fn.params.toList.length → s.fn H (ds ++ []) = { results := [.lit (.bool true)], args := ds })
    (hF : ∀ y : F.T, F.ok y → Fn C.prog f [0] (F.pvs y) (.bool true)) :
    ReturnsInHanded {} C os f .any (s.pre6 enc C.prog fn conds apart) (s.post enc C.prog fn apart true false false) := by
  refine returnsInHanded_of_change own started noInit hfn witness ?_
  intro W base args ds gs before hval hW _ _
  have hW' := hW
  obtain ⟨p, q, hA, hV, rfl, _, _⟩ := hW
  rw [hv] at hV
  obtain ⟨rfl, rfl⟩ := trodVars_none hV
  obtain ⟨y, y1, y2, y3⟩ := trodAll_sh (P := C.prog) (w := W) (base := base) hsh (fun j t v a b => hval j t v (by simpa using a) (by simpa using b)) hA
  refine ((hF y y1).2 W (Zw W) args (fun _ h => h) ⟨by simpa using y2, fun i c hc => ?_⟩).mono fun e W' hh => ?_
  · obtain ⟨u, u1, u2⟩ := y3 i c hc
    exact ⟨u, by simpa using u1, u2⟩
  · obtain ⟨v, G, rfl, bel, _, hrep⟩ := hh
    have hvb : v = .bool true := by
      unfold D at hrep
      simpa [thV, thComp, thC, VRep] using hrep
    subst hvb
    have hs := hspec ds (trodAll_len hA)
    refine ⟨_, rfl, ds, [], _, [], p, [], hW', ?_, ?_, ?_, bel.bl.frame _, fun h => by cases h⟩
    · rw [hs, hrt]; exact trodAll_mk1 ⟨1, by simp [DataW.trod, hb, Value.cells]⟩
    · rw [hs]; exact trodAll_below laid bel.bl hread hA
    · rw [hs, hv]; rfl
end Go.Proofs.Ytalgbgeocpbadaa.Am
