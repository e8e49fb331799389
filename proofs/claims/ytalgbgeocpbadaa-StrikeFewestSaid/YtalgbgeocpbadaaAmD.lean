/-
  What the plain machine says of an operation is so: operations that leave memory alone.
-/
import Derived.Test.YtalgbgeocpbadaaAmB
import Derived.Test.YtalgbgeocpbadaaAmC
import Derived.Laws.Small
import Derived.Laws.CopyRow
import Derived.Laws.MakeOwn
namespace Go.Proofs.Ytalgbgeocpbadaa.Am
set_option linter.unusedSimpArgs false
set_option linter.unusedVariables false
set_option linter.unusedSectionVars false
open Go.RowKit

/-- the operation is carried out; what comes is p, and memory lies as ws says -/
def Good (P : Program) (B : Nat) (Z0 : Nat → Prop) (G : Gh) (h : Heap) (w : World) (s : Sem Next) (p : PV) (ws : List (Nat × Row)) : Prop :=
  ∃ n v w' G', s.run P w = .ok n w' ∧ (n = .value v ∨ n = .skip ∧ v = undef) ∧ HRep B Z0 G' (upd h ws) w' ∧ Ext G h w G' (upd h ws) w' ∧ VRep G' (upd h ws) w' D v p ∧ Bl B w w'
section
variable {P : Program} {B : Nat} {Z0 : Nat → Prop} {G : Gh} {h : Heap} {w : World}
theorem good_same (hr : HRep B Z0 G h w) {s : Sem Next} {v : Value} {p : PV} (hs : s.run P w = .ok (.value v) w) (hv : VRep G h w D v p) : Good P B Z0 G h w s p [] :=
  ⟨_, v, w, G, hs, .inl rfl, hr, Ext.refl, hv, Bl.refl _ _⟩
theorem good_val (hr : HRep B Z0 G h w) {s : Sem Value} {v : Value} {p : PV} (hs : s.run P w = .ok v w) (hv : VRep G h w D v p) : Good P B Z0 G h w (do pure (.value (← s))) p [] :=
  good_same hr (by simp [hs]) hv

/-! reading off what a plain value is -/
theorem rep_bool {n : Nat} {v : Value} {b : Bool} (hv : VRep G h w n v (.bool b)) : v = .bool b := by cases n <;> (unfold VRep at hv; exact hv)
theorem rep_int {n : Nat} {v : Value} {k : IntKind} {i : Int} (hv : VRep G h w n v (.int k i)) : v = .int k i := by cases n <;> (unfold VRep at hv; exact hv)
theorem rep_str {n : Nat} {v : Value} {s : ByteArray} (hv : VRep G h w n v (.str s)) : v = .string s := by cases n <;> (unfold VRep at hv; exact hv)
theorem rep_nils {n : Nat} {v : Value} (hv : VRep G h w n v .nils) : v = .slice none 0 0 := by cases n <;> (unfold VRep at hv; exact hv)
theorem rep_slc {n : Nat} {v : Value} {es : List PV} (hv : VRep G h w n v (.slc es)) : PR G.Z w v (.slc es) := by cases n <;> (unfold VRep at hv; exact hv)
theorem rep_agg {v : Value} {cs : List PV} (hv : VRep G h w D v (.agg cs)) : ∃ vs, v = .agg vs ∧ LRep (VRep G h w 5) vs cs := by unfold D at hv; unfold VRep at hv; exact hv
theorem rep_tup {v : Value} {cs : List PV} (hv : VRep G h w D v (.tup cs)) : ∃ vs, v = .tuple vs ∧ LRep (VRep G h w 5) vs cs := by unfold D at hv; unfold VRep at hv; exact hv
theorem rep_fn {v : Value} {f : Fn} {a b : List PV} (hv : VRep G h w D v (.fn f a b)) : ∃ vs us, v = .func f vs us ∧ LRep (VRep G h w 5) vs a ∧ LRep (VRep G h w 5) us b := by unfold D at hv; unfold VRep at hv; exact hv
theorem mk_bool {n : Nat} {b : Bool} : VRep G h w n (.bool b) (.bool b) := by cases n <;> (unfold VRep; rfl)
theorem mk_int {n : Nat} {k : IntKind} {i : Int} : VRep G h w n (.int k i) (.int k i) := by cases n <;> (unfold VRep; rfl)
theorem mk_str {n : Nat} {s : ByteArray} : VRep G h w n (.string s) (.str s) := by cases n <;> (unfold VRep; rfl)
theorem mk_nils {n : Nat} : VRep G h w n (.slice none 0 0) .nils := by cases n <;> (unfold VRep; rfl)
theorem mk_undef {n : Nat} {v : Value} : VRep G h w n v .undef := by cases n <;> (unfold VRep; trivial)
theorem mk_slc {n : Nat} {v : Value} {es : List PV} (hp : PR G.Z w v (.slc es)) : VRep G h w n v (.slc es) := by cases n <;> (unfold VRep; exact hp)
theorem mk_agg {vs : Array Value} {cs : List PV} (hp : LRep (VRep G h w 5) vs cs) : VRep G h w D (.agg vs) (.agg cs) := by unfold D; unfold VRep; exact ⟨vs, rfl, hp⟩
theorem rep_up {v : Value} {p : PV} (hv : VRep G h w 5 v p) : VRep G h w D v p := hv.up
theorem one_plain {c : PV} (ho : one c = true) : (∀ cs, c ≠ .agg cs) ∧ (∀ cs, c ≠ .tup cs) ∧ ∀ f a b, c ≠ .fn f a b := by
  refine ⟨fun cs e => ?_, fun cs e => ?_, fun f a b e => ?_⟩ <;> (subst e; simp [one] at ho)
theorem one_cell {n m : Nat} {v : Value} {c : PV} (ho : one c = true) (hv : VRep G h w n v c) : VRep G h w m v c := hv.cell (one_plain ho)
/-- what is read out of memory that nobody writes to -/
theorem prep_vrep {v : Value} {c : PV} (ho : one c = true) (hp : PR G.Z w v c) : VRep G h w D v c := by
  cases c
  case slc es => exact mk_slc hp
  all_goals
    obtain ⟨n, hp⟩ := hp
    first
      | (cases n <;> (unfold PRep at hp; unfold D; unfold VRep; exact hp))
      | (cases n <;> (unfold PRep at hp; exact hp.elim))
      | (simp [one] at ho)

/-! arithmetic -/
theorem snd_bin {op : BinOp} {t : TypeId} {x y : Operand} {a b : Value} {p q r : PV} (ha : VRep G h w D a p) (hb : VRep G h w D b q) (hk : binP op (boolT P t) p q = some r) :
    ∃ v, (do eqGuard op t x y a b; Go.binOp op t a b : Sem Value).run P w = .ok v w ∧ VRep G h w D v r := by
  cases p <;> cases q <;> (try (simp [binP] at hk; done))
  case int.int k i k' j =>
    obtain rfl := rep_int ha
    obtain rfl := rep_int hb
    have hg : (eqGuard op t x y (.int k i) (.int k' j)).run P w = .ok () w := by unfold eqGuard; cases op <;> simp
    simp only [Sem.run_bind, hg, Result.andThen_ok]
    cases op <;> simp only [binP] at hk <;> simp only [Go.binOp]
    case shl =>
      split at hk
      · cases hk
      · cases hk; rename_i hn; refine ⟨_, ?_, mk_int⟩; simp [Op.shift, hn]
    case shr =>
      split at hk
      · cases hk
      · cases hk; rename_i hn; refine ⟨_, ?_, mk_int⟩; simp [Op.shift, hn]
    case quo | rem =>
      split at hk
      · rename_i hkk
        subst hkk
        split at hk
        · cases hk
        · cases hk; rename_i hn; refine ⟨_, ?_, mk_int⟩; simp [Op.intDiv, hn]
      · cases hk
    case eql | neq | lss | leq | gtr | geq =>
      split at hk
      · rename_i hkk
        subst hkk
        cases hk; refine ⟨_, ?_, mk_bool⟩; simp [Op.intCmp]
      · cases hk
    all_goals
      split at hk
      · rename_i hkk
        subst hkk
        cases hk; refine ⟨_, ?_, mk_int⟩; simp [Op.intArith, Op.intBits]
      · cases hk
  case bool.bool i j =>
    obtain rfl := rep_bool ha
    obtain rfl := rep_bool hb
    have hg : (eqGuard op t x y (.bool i) (.bool j)).run P w = .ok () w := by unfold eqGuard; cases op <;> simp
    simp only [Sem.run_bind, hg, Result.andThen_ok]
    simp only [binP] at hk
    split at hk
    · cases hk
    · rename_i hbt
      have hu : P.underlying t = some .bool := by
        unfold boolT at hbt
        split at hbt
        · assumption
        · simp at hbt
      have he := run_equal_bool (P := P) w t i j hu
      cases op <;> simp at hk <;> subst hk <;> simp only [Go.binOp] <;> (refine ⟨_, ?_, mk_bool⟩; simp [he]; try (first | rfl | (cases i <;> cases j <;> rfl)))
  case str.str i j =>
    obtain rfl := rep_str ha
    obtain rfl := rep_str hb
    have hg : (eqGuard op t x y (.string i) (.string j)).run P w = .ok () w := by unfold eqGuard; cases op <;> simp
    simp only [Sem.run_bind, hg, Result.andThen_ok]
    cases op <;> simp only [binP] at hk <;> (try (cases hk; done)) <;> simp only [Go.binOp]
    case add =>
      split at hk
      · cases hk
      · cases hk; rename_i hn; exact ⟨_, by simp only [Op.stringOp, hn, if_false]; rfl, mk_str⟩
    all_goals (cases hk; exact ⟨_, by simp only [Op.stringOp]; rfl, mk_bool⟩)
theorem snd_un {op : UnOp} {a : Value} {p r : PV} (ha : VRep G h w D a p) (hk : unP op p = some r) : ∃ v, (Op.unary op a).run P w = .ok v w ∧ VRep G h w D v r := by
  cases p <;> (try (simp [unP] at hk; done))
  case bool b => obtain rfl := rep_bool ha; cases op <;> simp [unP] at hk; subst hk; refine ⟨_, ?_, mk_bool⟩; simp [Op.unary]
  case int k n => obtain rfl := rep_int ha; cases op <;> simp [unP] at hk; subst hk; refine ⟨_, ?_, mk_int⟩; simp [Op.unary, Op.intArith]

/-! reading cells -/
/-- from (b, o) on lie cs -/
def CSeg (R : Nat → Value → PV → Prop) (w : World) (b o : Nat) (cs : List PV) : Prop := ∀ (j : Nat) c, cs[j]? = some c → ∃ u, w.cell? ⟨b, o + j, none⟩ = some u ∧ R j u c
theorem run_load_agg {t : TypeId} {sz b o : Nat} (hi : infoA P t = some true) (hs : sizeA P t = some sz) (f : Nat → Value) (hc : ∀ j, j < sz → w.cell? ⟨b, o + j, none⟩ = some (f j)) :
    (Instr.loadAt t (.pointer (some ⟨b, o, none⟩))).run P w = .ok (.agg ((List.range sz).map f).toArray) w := by
  unfold infoA at hi
  unfold sizeA at hs
  obtain ⟨i, hi1, rfl⟩ := Option.map_eq_some_iff.1 hs
  have hl := run_loadCells (P := P) w ⟨b, o, none⟩ i.size f (fun j hj => by rw [Addr.add_lit]; exact hc j hj)
  split at hi <;> rename_i hu
  · simp [Instr.loadAt, Instr.sureAddr, loadVar, isAgg, run_underlying hu, sizeOf, typeInfo, hi1, hl]
  · simp [Instr.loadAt, Instr.sureAddr, loadVar, isAgg, run_underlying hu, sizeOf, typeInfo, hi1, hl]
  · simp at hi
  · simp at hi
theorem run_load_cell {t : TypeId} {b o : Nat} {v : Value} (hi : infoA P t = some false) (hc : w.cell? ⟨b, o, none⟩ = some v) :
    (Instr.loadAt t (.pointer (some ⟨b, o, none⟩))).run P w = .ok v w := by
  unfold infoA at hi
  split at hi
  · simp at hi
  · simp at hi
  · rename_i d h1 h2 hu
    have : (isAgg t).run P w = .ok false w := by
      unfold isAgg
      simp only [Sem.run_bind, run_underlying hu, Result.andThen_ok]
      cases d <;> first | rfl | exact absurd rfl (h1 _) | exact absurd rfl (h2 _ _)
    simp [Instr.loadAt, Instr.sureAddr, loadVar, this, run_load, hc]
  · simp at hi
theorem snd_load {R : Nat → Value → PV → Prop} {t : TypeId} {agg : Bool} {sz b o off : Nat} {cs : List PV} {r : PV} (hi : infoA P t = some agg) (hs : sizeA P t = some sz) (hc : CSeg R w b o cs) (hk : takeE agg sz cs off = some r) :
    ∃ v, (Instr.loadAt t (.pointer (some ⟨b, o + off, none⟩))).run P w = .ok v w ∧ (agg = false → R off v r ∧ cs[off]? = some r) ∧ (agg = true → ∃ vs, v = .agg vs ∧ r = .agg ((cs.drop off).take sz) ∧ (vs.size = sz ∧ ∀ (j : Nat) c, ((cs.drop off).take sz)[j]? = some c → ∃ u, vs[j]? = some u ∧ R (off + j) u c) ∧ ((cs.drop off).take sz).length = sz) := by
  cases agg with
  | false =>
    simp only [takeE, Bool.false_eq_true, if_false] at hk
    obtain ⟨u, h1, h2⟩ := hc off r hk
    exact ⟨u, run_load_cell hi h1, fun _ => ⟨h2, hk⟩, fun e => by cases e⟩
  | true =>
    simp only [takeE, if_true] at hk
    split at hk
    · rename_i hle
      cases hk
      have hlen : ((cs.drop off).take sz).length = sz := by simp; omega
      have hall : ∀ j, j < sz → ∃ u, w.cell? ⟨b, o + off + j, none⟩ = some u ∧ ∃ c, ((cs.drop off).take sz)[j]? = some c ∧ R (off + j) u c := fun j hj => by
        obtain ⟨c, hc'⟩ : ∃ c, cs[off + j]? = some c := ⟨cs[off + j], List.getElem?_eq_getElem (by omega)⟩
        obtain ⟨u, h1, h2⟩ := hc (off + j) c hc'
        refine ⟨u, by rw [Nat.add_assoc]; exact h1, c, ?_, h2⟩
        rw [List.getElem?_take, if_pos hj, List.getElem?_drop]; exact hc'
      have hr := run_load_agg (P := P) (w := w) (t := t) (b := b) (o := o + off) hi hs (fun j => (w.cell? ⟨b, o + off + j, none⟩).getD undef) (fun j hj => by obtain ⟨u, h1, _⟩ := hall j hj; rw [h1]; rfl)
      refine ⟨_, hr, fun e => absurd e (by simp), fun _ => ⟨_, rfl, rfl, ⟨by simp, fun j c hj => ?_⟩, hlen⟩⟩
      have hjs : j < sz := by rw [← hlen]; exact (List.getElem?_eq_some_iff.1 hj).1
      obtain ⟨u, h1, c', h2, h3⟩ := hall j hjs
      rw [h2] at hj; cases hj
      refine ⟨u, ?_, h3⟩
      simp [hjs, h1]
    · cases hk
end
end Go.Proofs.Ytalgbgeocpbadaa.Am
