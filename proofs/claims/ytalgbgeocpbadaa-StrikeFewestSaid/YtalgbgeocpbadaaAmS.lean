/-
  A region whose order is drawn: every order does what the text's order does.
-/
import Derived.Test.YtalgbgeocpbadaaAmR
namespace Go.Proofs.Ytalgbgeocpbadaa.Am
set_option linter.unusedSimpArgs false
set_option linter.unusedVariables false
set_option linter.unusedSectionVars false
open Go.RowKit
section
variable {P : Program} {B : Nat} {Z0 : Nat → Prop} {W0 : Anch B}
/-- of each operation, how it was read -/
structure OpOk (P : Program) (vs : List Nat) (N : Nat) (ops : List Oper) (i : Nat) (o : Oper) (x : XOper) : Prop where
  op : ∃ k app al, compOp P (rdIn o (rdOp vs ops i)) k app al o.type o.op = some x.op
  gd : (match o.guard with
        | none => some none
        | some (j, b) => match (ops[j]?).bind (·.dst) with
          | some t => (rdOp vs ops i (.tmp t)).map fun d => some (d, b)
          | none => none) = some x.guard
  var : x.var = o.dst.bind (vs.idxOf? ·)
  dst : ∀ t, o.dst = some t → t < N
theorem compOps_get {vs : List Nat} {N : Nat} {ops : List Oper} {al : Bool} : ∀ (rest : List Oper) (acc : List XOper) (k k' : Nat) (xs : List XOper), ops.drop acc.length = rest → compOps P vs N ops al acc k rest = some (xs, k') →
    ∃ tail, xs = acc ++ tail ∧ tail.length = rest.length ∧ ∀ (i : Nat) o, rest[i]? = some o → ∃ x, tail[i]? = some x ∧ OpOk P vs N ops (acc.length + i) o x
  | [], acc, k, k', xs, hdrop, hc => by
    simp only [compOps, Option.some.injEq, Prod.mk.injEq] at hc
    exact ⟨[], by simp [hc.1], rfl, fun i o ho => by simp at ho⟩
  | o :: rest, acc, k, k', xs, hdrop, hc => by
    have hdrop' : ops.drop (acc.length + 1) = rest := by
      rw [← List.drop_drop, hdrop]; rfl
    simp only [compOps] at hc
    split at hc
    · cases hc
    · rename_i xop hop
      split at hc
      · cases hc
      · rename_i g hg
        split at hc
        · rename_i hN
          obtain ⟨tail, rfl, h1, h2⟩ := compOps_get rest (acc ++ [{ op := xop, var := o.dst.bind (vs.idxOf? ·), guard := g, hide := [] }]) (k + sitesOf xop) k' xs (by simpa using hdrop') hc
          refine ⟨{ op := xop, var := o.dst.bind (vs.idxOf? ·), guard := g, hide := [] } :: tail, by simp, by simp [h1], fun i y hy => ?_⟩
          cases i with
          | zero =>
            simp only [List.getElem?_cons_zero, Option.some.injEq] at hy
            subst hy
            exact ⟨_, rfl, ⟨_, _, _, hop⟩, hg, rfl, fun t ht => by simp only [dstOk, ht] at hN; simpa [Nat.blt_eq] using hN⟩
          | succ i =>
            obtain ⟨x, h3, h4⟩ := h2 i y (by simpa using hy)
            refine ⟨x, by simpa using h3, ?_⟩
            simp only [List.length_append, List.length_cons, List.length_nil] at h4
            rw [show acc.length + (i + 1) = acc.length + 1 + i by omega]
            exact h4
        · cases hc
/-! what waits for what -/
theorem waitsFor_bit {acc : List Nat} {o : Oper} {j : Nat} (h : (waitsFor acc o).testBit j = true) : ∃ e ∈ o.after.toList, Region.binds .any e = true ∧ e.on < acc.length ∧ (j = e.on ∨ (acc.getD e.on 0).testBit j = true) := by
  unfold waitsFor at h
  generalize o.after.toList = l at h
  induction l with
  | nil => simp at h
  | cons e l ih =>
    simp only [List.foldr_cons] at h
    split at h
    · rename_i hc
      simp only [Bool.and_eq_true, Nat.blt_eq] at hc
      rw [Nat.testBit_or, Nat.testBit_or, Bool.or_eq_true, Bool.or_eq_true] at h
      rcases h with h | h | h
      · obtain ⟨e', h1, h2⟩ := ih h; exact ⟨e', List.mem_cons_of_mem _ h1, h2⟩
      · refine ⟨e, List.mem_cons_self, hc.1, hc.2, .inl ?_⟩
        rw [Nat.testBit_two_pow] at h
        have h' : e.on = j := by simpa using h
        exact h'.symm
      · exact ⟨e, List.mem_cons_self, hc.1, hc.2, .inr h⟩
    · obtain ⟨e', h1, h2⟩ := ih h; exact ⟨e', List.mem_cons_of_mem _ h1, h2⟩
theorem waitL_spec : ∀ (rest : List Oper) (acc : List Nat), ∃ tail, waitL acc rest = acc ++ tail ∧ tail.length = rest.length ∧ ∀ (i : Nat) o, rest[i]? = some o → tail[i]? = some (waitsFor (acc ++ tail.take i) o)
  | [], acc => ⟨[], by simp [waitL], rfl, fun i o ho => by simp at ho⟩
  | o :: rest, acc => by
    obtain ⟨tail, h1, h2, h3⟩ := waitL_spec rest (acc ++ [waitsFor acc o])
    refine ⟨waitsFor acc o :: tail, by simp [waitL, h1], by simp [h2], fun i y hy => ?_⟩
    cases i with
    | zero => simp only [List.getElem?_cons_zero, Option.some.injEq] at hy; subst hy; simp
    | succ i => have := h3 i y (by simpa using hy); simpa using this
theorem wait_bit {ops : List Oper} {i j : Nat} {o : Oper} (ho : ops[i]? = some o) (h : ((waitL [] ops).getD i 0).testBit j = true) : ∃ e ∈ o.after.toList, Region.binds .any e = true ∧ e.on < i ∧ (j = e.on ∨ ((waitL [] ops).getD e.on 0).testBit j = true) := by
  obtain ⟨tail, h1, h2, h3⟩ := waitL_spec ops []
  simp only [List.nil_append] at h1 h3
  rw [h1] at h ⊢
  have hi : i < tail.length := by rw [h2]; exact (List.getElem?_eq_some_iff.1 ho).1
  rw [List.getD_eq_getElem?_getD, h3 i o ho, Option.getD_some] at h
  obtain ⟨e, e1, e2, e3, e4⟩ := waitsFor_bit h
  have e3' : e.on < i := by simp at e3; omega
  refine ⟨e, e1, e2, e3', e4.imp id fun h5 => ?_⟩
  simp only [List.getD_eq_getElem?_getD, List.getElem?_take, if_pos e3'] at h5 ⊢
  exact h5
theorem waitsFor_edge {acc : List Nat} {o : Oper} {e : Edge} (he : e ∈ o.after.toList) (hb : Region.binds .any e = true) (hl : e.on < acc.length) {j : Nat} (hj : (acc.getD e.on 0).testBit j = true) : (waitsFor acc o).testBit j = true := by
  unfold waitsFor
  generalize o.after.toList = l at he
  induction l with
  | nil => cases he
  | cons a l ih =>
    simp only [List.foldr_cons]
    rcases List.mem_cons.1 he with rfl | he
    · rw [if_pos (by simp [hb, hl])]
      rw [Nat.testBit_or, Nat.testBit_or, hj]; simp
    · split
      · rw [Nat.testBit_or, ih he]; simp
      · exact ih he
theorem wait_trans {ops : List Oper} {m i : Nat} (h2 : ((waitL [] ops).getD m 0).testBit i = true) : ∀ (j : Nat), j < ops.length → ((waitL [] ops).getD j 0).testBit m = true → ((waitL [] ops).getD j 0).testBit i = true := by
  intro j
  induction j using Nat.strongRecOn with
  | _ j ih =>
    intro hj h1
    obtain ⟨e, e1, e2, e3, e4⟩ := wait_bit (List.getElem?_eq_getElem hj) h1
    have h3 : ((waitL [] ops).getD e.on 0).testBit i = true := by
      rcases e4 with rfl | e4
      · exact h2
      · exact ih e.on e3 (by omega) e4
    obtain ⟨tail, t1, t2, t3⟩ := waitL_spec ops []
    simp only [List.nil_append] at t1 t3
    rw [t1] at h3 ⊢
    rw [List.getD_eq_getElem?_getD, t3 j _ (List.getElem?_eq_getElem hj), Option.getD_some]
    refine waitsFor_edge e1 e2 (by simp; omega) ?_
    simp only [List.getD_eq_getElem?_getD, List.getElem?_take, if_pos e3] at h3 ⊢
    exact h3
theorem edgesOk_get : ∀ {ops : List Oper} {k : Nat}, edgesOk k ops = true → ∀ (i : Nat) o, ops[i]? = some o → ∀ e ∈ o.after.toList, Region.binds .any e = true → e.on < k + i
  | [], _, _, i, o, ho => by simp at ho
  | o :: r, k, h, i, y, hy => by
    simp only [edgesOk, Bool.and_eq_true] at h
    cases i with
    | zero =>
      simp only [List.getElem?_cons_zero, Option.some.injEq] at hy
      subst hy
      intro e he hb
      have := Array.all_eq_true'.1 h.1 e (by simpa using he)
      rw [hb] at this
      simpa [Nat.blt_eq] using this
    | succ i =>
      intro e he hb
      have := edgesOk_get h.2 i y (by simpa using hy) e he hb
      omega
/-- a region of drawn order, read -/
structure Drawn (P : Program) (vs : List Nat) (N : Nat) (ops : List Oper) (xs : List XOper) : Prop where
  len : xs.length = ops.length
  ok : ∀ i o, ops[i]? = some o → ∃ x, xs[i]? = some x ∧ OpOk P vs N ops i o x
  un : ∀ i j x y a b, xs[i]? = some x → xs[j]? = some y → ops[i]? = some a → ops[j]? = some b → unord (waitL [] ops) i j = true →
    a.apart ops.toArray b = true ∧ b.apart ops.toArray a = true ∧ okPair x y = true ∧ ∀ k ∈ siteNos y.op, k ∈ x.hide
  ed : edgesOk 0 ops = true
  cy : xs.any (fun x => isCally x.op) = false
  cv : ∀ (i j : Nat) (x y : XOper), xs[i]? = some x → xs[j]? = some y → isLoadV x.op = true → isCallv y.op = false
theorem unord_symm {ws : List Nat} {i j : Nat} (h : unord ws i j = true) : unord ws j i = true := by
  unfold unord at *
  split at h
  · rename_i h1
    rw [if_neg (by omega), if_pos h1]; exact h
  · split at h
    · rename_i h1
      rw [if_pos h1]; exact h
    · cases h
theorem okPair_symm {x y : XOper} (h : okPair x y = true) : okPair y x = true := by
  unfold okPair at *
  simp only [Bool.or_eq_true, Bool.and_eq_true, decide_eq_true_eq, beq_iff_eq] at *
  rcases h with (((h | h) | h) | h) | h
  · exact .inl (.inl (.inl (.inr h)))
  · exact .inl (.inl (.inl (.inl h)))
  · exact .inl (.inl (.inr h.symm))
  · exact .inr h.symm
  · exact .inl (.inr h.symm)
theorem drawn_of {vs : List Nat} {N k k' : Nat} {ops : List Oper} {xs : List XOper} (h : compReg P vs N k ops true = some (xs, k')) : Drawn P vs N ops xs := by
  unfold compReg at h
  split at h
  · cases h
  · rename_i xs0 k1 hc
    simp only [if_true] at h
    split at h
    · rename_i hd
      unfold drawnOk at hd
      simp only [Bool.and_eq_true] at hd
      obtain ⟨⟨⟨hcy, hcv⟩, hd⟩, hed⟩ := hd
      simp only [Option.some.injEq, Prod.mk.injEq] at h
      obtain ⟨rfl, rfl⟩ := h
      obtain ⟨tail, h1, h2, h3⟩ := compOps_get ops [] k k1 xs0 rfl hc
      simp only [List.nil_append, List.length_nil, Nat.zero_add] at h1 h3
      subst h1
      have hget : ∀ (i : Nat), ((xs0.zipIdx.map fun y => ({ y.1 with hide := hideOf (waitL [] ops) xs0 y.2 } : XOper))[i]?) = (xs0[i]?).map fun x => ({ x with hide := hideOf (waitL [] ops) xs0 i } : XOper) := fun i => by
        rw [List.getElem?_map, List.getElem?_zipIdx]; cases xs0[i]? <;> simp
      refine ⟨by simp [h2], fun i o ho => ?_, fun i j x y a b hx hy ha hb hu => ?_, hed, ?_, fun i j x y hx hy hl => ?_⟩
      · obtain ⟨x, h4, h5⟩ := h3 i o ho
        refine ⟨{ x with hide := hideOf (waitL [] ops) xs0 i }, by rw [hget, h4]; rfl, h5.op, h5.gd, h5.var, h5.dst⟩
      · rw [hget] at hx hy
        obtain ⟨x0, hx0, rfl⟩ := Option.map_eq_some_iff.1 hx
        obtain ⟨y0, hy0, rfl⟩ := Option.map_eq_some_iff.1 hy
        have hil : i < ops.length := (List.getElem?_eq_some_iff.1 ha).1
        have hjl : j < ops.length := (List.getElem?_eq_some_iff.1 hb).1
        have key : ∀ (i j : Nat) (x0 y0 : XOper) (a b : Oper), i < j → j < ops.length → xs0[i]? = some x0 → xs0[j]? = some y0 → ops[i]? = some a → ops[j]? = some b → unord (waitL [] ops) j i = true → a.apart ops.toArray b = true ∧ b.apart ops.toArray a = true ∧ okPair x0 y0 = true := by
          intro i j x0 y0 a b hij hjl hx0 hy0 ha hb hu
          have := List.all_eq_true.1 (List.all_eq_true.1 hd j (List.mem_range.2 hjl)) i (List.mem_range.2 hij)
          rw [hu, hx0, hy0, ha, hb] at this
          simpa [and_assoc] using this
        have hij : i ≠ j := fun e => by subst e; simp [unord] at hu
        have h5 : ∀ k ∈ siteNos y0.op, k ∈ hideOf (waitL [] ops) xs0 i := fun k hk => by
          unfold hideOf
          refine List.mem_flatten.2 ⟨siteNos y0.op, List.mem_map.2 ⟨(y0, j), List.mem_filter.2 ⟨?_, by simpa using hu⟩, rfl⟩, hk⟩
          exact List.mem_zipIdx_iff_getElem?.2 hy0
        rcases Nat.lt_or_gt_of_ne hij with hlt | hgt
        · obtain ⟨k1, k2, k3⟩ := key i j x0 y0 a b hlt hjl hx0 hy0 ha hb (unord_symm hu)
          exact ⟨k1, k2, k3, h5⟩
        · obtain ⟨k1, k2, k3⟩ := key j i y0 x0 b a hgt hil hy0 hx0 hb ha hu
          exact ⟨k2, k1, okPair_symm k3, h5⟩
      · rw [Bool.not_eq_true'] at hcy
        rw [List.any_eq_false] at hcy ⊢
        intro x hx
        obtain ⟨i, hi⟩ := List.mem_iff_getElem?.1 hx
        rw [hget] at hi
        obtain ⟨x0, hx0, rfl⟩ := Option.map_eq_some_iff.1 hi
        exact hcy x0 (List.mem_of_getElem? hx0)
      · rw [hget] at hx hy
        obtain ⟨x0, hx0, rfl⟩ := Option.map_eq_some_iff.1 hx
        obtain ⟨y0, hy0, rfl⟩ := Option.map_eq_some_iff.1 hy
        rw [Bool.or_eq_true] at hcv
        have h6 : xs0.any (fun x => isLoadV x.op) = true := List.any_eq_true.2 ⟨x0, List.mem_of_getElem? hx0, hl⟩
        rcases hcv with hcv | hcv
        · cases hy1 : isCallv y0.op
          · rfl
          · rw [show xs0.any (fun x => isCallv x.op) = true from List.any_eq_true.2 ⟨y0, List.mem_of_getElem? hy0, hy1⟩] at hcv; cases hcv
        · rw [h6] at hcv; cases hcv
    · cases h
end
end Go.Proofs.Ytalgbgeocpbadaa.Am
