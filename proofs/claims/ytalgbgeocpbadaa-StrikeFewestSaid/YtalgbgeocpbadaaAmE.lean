/-
  .. operations that leave memory alone, further ones: addresses, slices, parts of values.
-/
import Derived.Test.YtalgbgeocpbadaaAmD
namespace Go.Proofs.Ytalgbgeocpbadaa.Am
set_option linter.unusedSimpArgs false
set_option linter.unusedVariables false
set_option linter.unusedSectionVars false
open Go.RowKit
section
variable {P : Program} {B : Nat} {Z0 : Nat → Prop} {G : Gh} {h : Heap} {w : World}
theorem sizeA_some {t : TypeId} {s : Nat} (hs : sizeA P t = some s) : ∃ i, P.info? t = some i ∧ i.size = s := Option.map_eq_some_iff.1 hs
theorem fieldA_some {t : TypeId} {f : Nat} {fd : Field} (hs : fieldA P t f = some fd) : ∃ fs, P.underlying t = some (.struct fs) ∧ fs[f]? = some fd := by
  unfold fieldA at hs
  split at hs
  · exact ⟨_, by assumption, hs⟩
  · cases hs
theorem elemA_some {t e : TypeId} (hs : elemA P t = some e) : P.underlying t = some (.slice e) := by
  unfold elemA at hs
  split at hs
  · cases hs; assumption
  · cases hs

theorem snd_addrOff {v : Value} {p q : PV} {off : Nat} (hv : VRep G h w D v p) (hk : addrOff off p = some q) : ∃ b o, v = .pointer (some ⟨b, o, none⟩) ∧ VRep G h w D (.pointer (some ⟨b, o + off, none⟩)) q := by
  cases p <;> (try (simp [addrOff] at hk; done))
  case ptr k g o =>
    simp only [addrOff, Option.some.injEq] at hk; subst hk
    unfold D at hv ⊢; unfold VRep at hv ⊢
    obtain ⟨b, rfl, gn, ob, h1, h2, h3⟩ := hv
    exact ⟨b, o, rfl, b, rfl, gn, ob, h1, h2, h3⟩
  case eptr k g gl s i j =>
    simp only [addrOff, Option.some.injEq] at hk; subst hk
    unfold D at hv ⊢; unfold VRep at hv ⊢
    obtain ⟨b, f, rfl, gn, ob, h1, h2, h3⟩ := hv
    refine ⟨b, f, rfl, b, f + off, rfl, gn, ob, h1, h2, fun e sz ver fr es e2 => ?_⟩
    obtain ⟨h4, h5⟩ := h3 e sz ver fr es e2
    refine ⟨h4, fun e3 => ?_⟩
    obtain ⟨h6, h7, h8⟩ := h5 e3
    exact ⟨h6, fun e4 => by rw [h7 e4]; omega, h8⟩
  case nptr k g ver s i j m l =>
    simp only [addrOff, Option.some.injEq] at hk; subst hk
    unfold D at hv ⊢; unfold VRep at hv ⊢
    obtain ⟨b, f, rfl, gn, ob, h1, h2, h3⟩ := hv
    refine ⟨b, f, rfl, b, f + off, rfl, gn, ob, h1, h2, fun e sz vr fr es e2 => ?_⟩
    obtain ⟨h4, h5⟩ := h3 e sz vr fr es e2
    refine ⟨h4, fun e3 => ?_⟩
    obtain ⟨ns, hc, h6, h7, h8⟩ := h5 e3
    exact ⟨ns, hc, h6, fun e4 => by rw [h7 e4]; omega, h8⟩
  case fptr cs =>
    simp only [addrOff] at hk
    split at hk
    · cases hk
      unfold D at hv ⊢; unfold VRep at hv ⊢
      obtain ⟨b, o, rfl, h1, h2⟩ := hv
      refine ⟨b, o, rfl, b, o + off, rfl, h1, fun j c hc => ?_⟩
      rw [List.getElem?_drop] at hc
      obtain ⟨h3, u, h4, h5⟩ := h2 (off + j) c hc
      exact ⟨h3, u, by rw [Nat.add_assoc]; exact h4, h5⟩
    · cases hk
theorem run_fieldAt {s : TypeId} {f : Nat} {fd : Field} {z b o : Nat} (h1 : fieldA P s f = some fd) (h2 : sizeA P fd.type = some z) (h3 : z ≠ 0) :
    (Instr.fieldAt s (.pointer (some ⟨b, o, none⟩)) f).run P w = .ok (.pointer (some ⟨b, o + fd.offset, none⟩)) w := by
  obtain ⟨fs, hu, hf⟩ := fieldA_some h1
  obtain ⟨i, hi, rfl⟩ := sizeA_some h2
  simp [Instr.fieldAt, run_underlying hu, hf, Instr.sureAddr, fieldPlace, sizeOf, typeInfo, hi, h3, Addr.add_lit]
theorem run_indexAt {t e : TypeId} {z b f l c : Nat} {k : IntKind} {n : Int} (hu : P.underlying t = some (.slice e)) (hz : sizeA P e = some z) (h0 : 0 ≤ n) (hl : n < l) :
    (Instr.indexAt t (.slice (some ⟨b, f, none⟩) l c) (.int k n)).run P w = .ok (.pointer (some ⟨b, f + n.toNat * z, none⟩)) w := by
  obtain ⟨i, hi, rfl⟩ := sizeA_some hz
  simp [Instr.indexAt, run_underlying hu, asIntOf, sizeOf, typeInfo, hi, h0, hl, Addr.add_lit]
theorem run_indexAtA {t e : TypeId} {z b f m : Nat} {k : IntKind} {n : Int} (hu : P.underlying t = some (.array m e)) (hz : sizeA P e = some z) (h0 : 0 ≤ n) (hl : n < m) :
    (Instr.indexAt t (.pointer (some ⟨b, f, none⟩)) (.int k n)).run P w = .ok (.pointer (some ⟨b, f + n.toNat * z, none⟩)) w := by
  obtain ⟨i, hi, rfl⟩ := sizeA_some hz
  simp [Instr.indexAt, run_underlying hu, asIntOf, Instr.sureAddr, sizeOf, typeInfo, hi, h0, hl, Addr.add_lit]
theorem snd_idx {t e : TypeId} {z : Nat} {k : IntKind} {n : Int} {v : Value} {p q : PV} (hu : P.underlying t = some (.slice e)) (hz : sizeA P e = some z) (hv : VRep G h w D v p) (hk : idxA z p n = some q) :
    ∃ u, (Instr.indexAt t v (.int k n)).run P w = .ok u w ∧ VRep G h w D u q := by
  unfold idxA at hk
  split at hk
  · rename_i h0
    cases p <;> (try (simp at hk; done))
    case slc es =>
      simp only [] at hk
      split at hk
      · rename_i e' he
        split at hk
        · rename_i hl
          cases hk
          have hp := rep_slc hv
          obtain ⟨a, c, sz, rfl, h2, h3, h4, h5⟩ := PR.slc_iff.1 hp
          obtain ⟨h6, b, o, rfl, h8, h9⟩ := h5 _ _ he
          have hlt : n < es.length := by have := (List.getElem?_eq_some_iff.1 he).1; omega
          refine ⟨_, run_indexAt hu hz h0 hlt, ?_⟩
          unfold D; unfold VRep
          refine ⟨b, _, rfl, h8, fun j c hc => ?_⟩
          obtain ⟨h10, u, h11, h12⟩ := h9 j c hc
          refine ⟨h10, u, ?_, h12⟩
          rw [Nat.add_assoc, show z = sz by omega]; exact h11
        · cases hk
      · cases hk
    case own k2 g gl s o l =>
      simp only [] at hk
      split at hk
      · rename_i hl
        obtain ⟨hl, rfl⟩ := hl
        cases hk
        unfold D at hv; unfold VRep at hv
        obtain ⟨a, c, rfl, h1, h2, h3, gn, ob, h4, h5, h6⟩ := hv
        rcases h3 with ⟨rfl, rfl⟩ | ⟨b, f, rfl⟩
        · omega
        refine ⟨_, run_indexAt hu hz h0 hl, ?_⟩
        unfold D; unfold VRep
        refine ⟨b, _, rfl, gn, ob, h4, h5, fun e1 sz ver fr es e2 => ?_⟩
        obtain ⟨h7, h8⟩ := h6 e1 sz ver fr es e2
        refine ⟨h7, fun e3 => ?_⟩
        obtain ⟨h9, h10, h11⟩ := h8 e3
        by_cases hR : G.R (root k2)
        · obtain ⟨f', e4, h12, _⟩ := h10 hR
          cases e4
          refine ⟨rfl, fun e5 => ?_, by omega⟩
          rcases h12 with h12 | h12
          · omega
          · rw [h12 e5, Nat.add_zero, Nat.add_mul]
        · obtain ⟨e4, _⟩ := h11 hR
          cases e4
      · cases hk
    case nown k2 g ver ei ej o l =>
      simp only [] at hk
      split at hk
      · rename_i hl
        cases hk
        unfold D at hv; unfold VRep at hv
        obtain ⟨a, c, rfl, h1, h2, h3, gn, ob, h4, h5, h6⟩ := hv
        rcases h3 with ⟨rfl, rfl⟩ | ⟨b, f, rfl⟩
        · omega
        refine ⟨_, run_indexAt hu hz h0 hl, ?_⟩
        unfold D; unfold VRep
        refine ⟨b, _, rfl, gn, ob, h4, h5, fun e1 sz vr fr es e2 => ?_⟩
        obtain ⟨h7, h8⟩ := h6 e1 sz vr fr es e2
        refine ⟨h7, fun e3 => ?_⟩
        obtain ⟨ns, hc, h9, h10, h11⟩ := h8 e3
        by_cases hR : G.R (nest k2 ei ej)
        · obtain ⟨f', e4, h12⟩ := h10 hR
          cases e4
          refine ⟨ns, hc, rfl, fun e5 => ?_, by omega⟩
          rcases h12 with h12 | h12
          · omega
          · rw [h12, e5, Nat.add_zero, Nat.add_mul]
        · obtain ⟨e4, _⟩ := h11 hR
          cases e4
      · cases hk
  · cases hk
theorem snd_len {t ty : TypeId} {v : Value} {p : PV} {n : Nat} {st : Bool} (hu : if st then P.underlying t = some .string else ∃ e, P.underlying t = some (.slice e)) (hv : VRep G h w D v p) (hk : lenP st p = some n) :
    (Builtin.len_ #[t] ty #[v]).run P w = .ok (.int .i64 n) w := by
  unfold lenP at hk
  split at hk
  · cases hk
  rename_i hst
  cases p <;> (try (simp at hk; done)) <;> simp only [Option.some.injEq] at hk <;> subst hk
  case str s =>
    obtain rfl := rep_str hv
    obtain rfl : st = true := by simpa [isStr] using hst
    simp at hu
    simp [Builtin.len_, run_underlying hu, goInt]
  all_goals
    obtain rfl : st = false := by simpa [isStr] using hst
    simp at hu
    obtain ⟨e, he⟩ := hu
  case slc es =>
    have hp := rep_slc hv
    obtain ⟨a, c, sz, rfl, _⟩ := PR.slc_iff.1 hp
    simp [Builtin.len_, run_underlying he, goInt]
  case nils => obtain rfl := rep_nils hv; simp [Builtin.len_, run_underlying he, goInt]
  case own => unfold D at hv; unfold VRep at hv; obtain ⟨a, c, rfl, _⟩ := hv; simp [Builtin.len_, run_underlying he, goInt]
  case nown => unfold D at hv; unfold VRep at hv; obtain ⟨a, c, rfl, _⟩ := hv; simp [Builtin.len_, run_underlying he, goInt]
theorem asInt_some {p : PV} {n : Int} (hk : asInt p = some n) : ∃ k, p = .int k n := by cases p <;> simp [asInt] at hk; subst hk; exact ⟨_, rfl⟩
/-- an operand that need not be there -/
def OV (G : Gh) (h : Heap) (w : World) : Option Value → Option PV → Prop
  | none, none => True
  | some v, some p => VRep G h w D v p
  | _, _ => False
theorem run_sliceBounds {isS : Bool} {n cap : Nat} {lo hi mx : Option Value} {plo phi pmx : Option PV} {l u : Nat} (hn : n ≤ cap) (h1 : OV G h w lo plo) (h2 : OV G h w hi phi) (h3 : OV G h w mx pmx) (hk : sliceB n plo phi pmx = some (l, u)) :
    (Instr.sliceBounds isS n cap lo hi mx).run P w = .ok (l, u, if pmx.isSome then u else cap) w ∧ l ≤ u ∧ u ≤ n := by
  unfold sliceB at hk
  split at hk
  · rename_i hh ll eh el
    split at hk
    · rename_i hb
      obtain ⟨b1, b2, b3⟩ := hb
      have hlo : ∀ (code : BoundsCode), (match lo with | some v => Instr.sliceBound v hh.toNat code | none => pure 0 : Sem Nat).run P w = .ok ll.toNat w := fun code => by
        cases plo with
        | none => cases lo with
          | none => simp at el; subst el; rfl
          | some v => exact h1.elim
        | some p => cases lo with
          | none => exact h1.elim
          | some v =>
            obtain ⟨k, rfl⟩ := asInt_some el
            obtain rfl := rep_int h1
            have : ¬ (max hh 0 < ll) := by omega
            simp [Instr.sliceBound, asIntOf, b1, this]
            try omega
      have hhi : ∀ (y : Nat) (code : BoundsCode), n ≤ y ∨ hh ≤ y → (match hi with | some v => Instr.sliceBound v y code | none => pure n : Sem Nat).run P w = .ok hh.toNat w := fun y code hy => by
        cases phi with
        | none => cases hi with
          | none => simp at eh; subst eh; simp
          | some v => exact h2.elim
        | some p => cases hi with
          | none => exact h2.elim
          | some v =>
            obtain ⟨k, rfl⟩ := asInt_some eh
            obtain rfl := rep_int h2
            have c1 : 0 ≤ hh := by omega
            have c2 : hh ≤ (y : Int) := by omega
            simp [Instr.sliceBound, asIntOf, c1, c2]
      cases pmx with
      | none =>
        simp only [Option.some.injEq, Prod.mk.injEq] at hk
        obtain ⟨rfl, rfl⟩ := hk
        cases mx with
        | some v => exact h3.elim
        | none =>
          refine ⟨?_, by omega, by omega⟩
          have e1 := hhi cap (if isS then .sliceAcap else .sliceAlen) (.inl hn)
          have e2 := hlo .sliceB
          unfold Instr.sliceBounds
          simp only [Sem.run_bind, Sem.run_pure, Result.andThen_ok]
          cases hi with
          | none => simp at e1; simp [← e1]; cases lo with
            | none => simp at e2; simp [← e2]
            | some v => simp at e2; simp [e1, e2]
          | some x => simp at e1; simp [e1]; cases lo with
            | none => simp at e2; simp [← e2]
            | some v => simp at e2; simp [e2]
      | some p =>
        simp only at hk
        split at hk
        · rename_i hm
          obtain ⟨m1, m2⟩ := hm
          simp only [Option.some.injEq, Prod.mk.injEq] at hk
          obtain ⟨rfl, rfl⟩ := hk
          cases mx with
          | none => exact h3.elim
          | some v =>
            obtain ⟨k, rfl⟩ := asInt_some m2
            obtain rfl := rep_int h3
            have c1 : 0 ≤ hh := by omega
            have c2 : hh ≤ (cap : Int) := by omega
            refine ⟨?_, by omega, by omega⟩
            have e1 := hhi hh.toNat .slice3B (.inr (by omega))
            have e2 := hlo .slice3C
            cases phi with
            | none => simp at m1
            | some q => cases hi with
              | none => exact h2.elim
              | some x =>
                unfold Instr.sliceBounds
                simp at e1
                have e3 : ∀ code, (Instr.sliceBound (.int k hh) cap code).run P w = .ok hh.toNat w := fun code => by simp [Instr.sliceBound, asIntOf, c1, c2]
                simp [e3, e1]
                cases lo with
                | none => simp at e2; simp [← e2]
                | some v => simp at e2; simp [e2]
        · cases hk
    · cases hk
  · cases hk
theorem run_slice {t e : TypeId} {z n cap : Nat} {a : Option Addr} {lo hi mx : Option Value} {plo phi pmx : Option PV} {l u : Nat} (hu : P.underlying t = some (.slice e)) (hz : sizeA P e = some z) (hn : n ≤ cap)
    (h1 : OV G h w lo plo) (h2 : OV G h w hi phi) (h3 : OV G h w mx pmx) (hk : sliceB n plo phi pmx = some (l, u)) :
    (Instr.sliceAt t (.slice a n cap) lo hi mx).run P w = .ok (.slice (if (if pmx.isSome then u else cap) = l then a else a.map (·.add (l * z))) (u - l) ((if pmx.isSome then u else cap) - l)) w ∧ l ≤ u ∧ u ≤ n := by
  obtain ⟨i, hi', rfl⟩ := sizeA_some hz
  obtain ⟨hb, hl, hu'⟩ := run_sliceBounds (P := P) (isS := true) hn h1 h2 h3 hk
  refine ⟨?_, hl, hu'⟩
  simp [Instr.sliceAt, Instr.slice, run_underlying hu, hb, sizeOf, typeInfo, hi']
theorem snd_slice {t e : TypeId} {z : Nat} {v : Value} {p q : PV} {lo hi mx : Option Value} {plo phi pmx : Option PV} (hu : P.underlying t = some (.slice e)) (hz : sizeA P e = some z) (hv : VRep G h w D v p)
    (h1 : OV G h w lo plo) (h2 : OV G h w hi phi) (h3 : OV G h w mx pmx) (hk : sliceP false z p plo phi pmx = some q) :
    ∃ u, (Instr.sliceAt t v lo hi mx).run P w = .ok u w ∧ VRep G h w D u q := by
  unfold sliceP at hk
  split at hk
  · cases hk
  rename_i hst
  cases p <;> (try (simp at hk; done)) <;> simp only [] at hk
  case str s => simp [isStr] at hst
  case slc es =>
    have hp := rep_slc hv
    obtain ⟨a, c, sz, rfl, q2, q3, q4, q5⟩ := PR.slc_iff.1 hp
    split at hk
    · rename_i l u hb
      split at hk
      · rename_i hsz
        cases hk
        obtain ⟨hr, b1, b2⟩ := run_slice (P := P) (a := a) hu hz q2 h1 h2 h3 hb
        refine ⟨_, hr, mk_slc ?_⟩
        have hlen : ((es.drop l).take (u - l)).length = u - l := by simp; omega
        refine PR.slc_iff.2 ⟨_, _, sz, by rw [hlen], ?_, ?_, ?_, fun i e' he => ?_⟩
        · rw [hlen]; split <;> omega
        · split <;> omega
        · intro hnone
          cases a with
          | none => have := q4 rfl; split <;> omega
          | some a =>
            by_cases hml : (if pmx.isSome then u else c) = l
            · rw [hml]; omega
            · rw [if_neg hml] at hnone; simp at hnone
        · have hi2 : i < u - l := by rw [← hlen]; exact (List.getElem?_eq_some_iff.1 he).1
          rw [List.getElem?_take, if_pos hi2, List.getElem?_drop] at he
          obtain ⟨h6, b, o, rfl, h8, h9⟩ := q5 _ _ he
          refine ⟨h6, b, o + l * z, ?_, h8, fun j c' hc => ?_⟩
          · have : ¬ ((if pmx.isSome then u else c) = l) := by split <;> omega
            rw [if_neg this]; simp [Addr.add_lit]
          · obtain ⟨h10, v', h11, h12⟩ := h9 j c' hc
            refine ⟨h10, v', ?_, h12⟩
            have : l * z = l * sz := by
              rcases hsz with rfl | hsz
              · simp
              · have := List.all_eq_true.1 hsz e' (List.mem_of_getElem? he)
                have : (ecells e').length = z := by simpa using this
                rw [← this, h6]
            rw [this, Nat.add_assoc, ← Nat.add_assoc (l * sz), ← Nat.add_mul]; exact h11
      · cases hk
    · cases hk
  case own k2 g gl s o n =>
    split at hk
    · cases hk
    · rename_i hmx
      obtain rfl : pmx = none := by cases pmx <;> simp at hmx; rfl
      split at hk
      · rename_i l u hb
        split at hk
        · rename_i hzs
          subst hzs
          cases hk
          unfold D at hv; unfold VRep at hv
          obtain ⟨a, c, rfl, q2, q3, q4, gn, ob, h4, h5, h6⟩ := hv
          obtain ⟨hr, b1, b2⟩ := run_slice (P := P) (a := a) hu hz q2 h1 h2 h3 hb
          refine ⟨_, hr, ?_⟩
          simp only [Option.isSome_none, Bool.false_eq_true, if_false]
          unfold D; unfold VRep
          refine ⟨_, _, rfl, by omega, by omega, ?_, gn, ob, h4, h5, fun e1 sz ver fr es e2 => ?_⟩
          · rcases q4 with ⟨rfl, rfl⟩ | ⟨b, f, rfl⟩
            · exact .inl ⟨by simp, by omega⟩
            · refine .inr ?_
              split
              · exact ⟨b, f, rfl⟩
              · exact ⟨b, f + l * z, by simp [Addr.add_lit]⟩
          · obtain ⟨h7, h8⟩ := h6 e1 sz ver fr es e2
            refine ⟨h7, fun e3 => ?_⟩
            obtain ⟨h9, h10, h11⟩ := h8 e3
            refine ⟨by omega, fun hR => ?_, fun hR => ?_⟩
            · obtain ⟨f, rfl, h12, h13, h14⟩ := h10 hR
              by_cases hcl : c = l
              · exact ⟨f, by rw [if_pos hcl], .inl (by omega), by omega, by omega⟩
              · refine ⟨f + l * z, by rw [if_neg hcl]; simp [Addr.add_lit], .inr fun e5 => ?_, by omega, by omega⟩
                rcases h12 with h12 | h12
                · omega
                · rw [h12 e5, Nat.add_mul]
            · obtain ⟨rfl, rfl⟩ := h11 hR
              rcases q4 with ⟨_, rfl⟩ | ⟨b, f, q4⟩
              · exact ⟨by simp, by omega⟩
              · cases q4
        · cases hk
      · cases hk
  case nown k2 g ver i j o n =>
    split at hk
    · cases hk
    · rename_i hmx
      obtain rfl : pmx = none := by cases pmx <;> simp at hmx; rfl
      split at hk
      · rename_i l u hb
        split at hk
        · rename_i hl0
          subst hl0
          cases hk
          unfold D at hv; unfold VRep at hv
          obtain ⟨a, c, rfl, q2, q3, q4, gn, ob, h4, h5, h6⟩ := hv
          obtain ⟨hr, b1, b2⟩ := run_slice (P := P) (a := a) hu hz q2 h1 h2 h3 hb
          refine ⟨_, hr, ?_⟩
          simp only [Option.isSome_none, Bool.false_eq_true, if_false]
          have ha : (if c = 0 then a else a.map (·.add (0 * z))) = a := by
            split
            · rfl
            · rcases q4 with ⟨rfl, rfl⟩ | ⟨b, f, rfl⟩
              · rfl
              · simp [Addr.add_lit]
          rw [ha]
          unfold D; unfold VRep
          refine ⟨a, c - 0, rfl, by omega, by omega, ?_, gn, ob, h4, h5, fun e1 sz vr fr es e2 => ?_⟩
          · rw [Nat.sub_zero]; exact q4
          · obtain ⟨h7, h8⟩ := h6 e1 sz vr fr es e2
            refine ⟨h7, fun e3 => ?_⟩
            obtain ⟨ns, hc, h9, h10, h11⟩ := h8 e3
            rw [Nat.sub_zero]
            exact ⟨ns, hc, by omega, h10, h11⟩
        · cases hk
      · cases hk
  case nils =>
    split at hk
    · rename_i x hb
      obtain ⟨l, u⟩ := x
      cases hk
      obtain rfl := rep_nils hv
      obtain ⟨hr, b1, b2⟩ := run_slice (P := P) (a := none) hu hz (Nat.le_refl 0) h1 h2 h3 hb
      refine ⟨_, hr, ?_⟩
      obtain rfl : u = 0 := by omega
      obtain rfl : l = 0 := by omega
      simp
      exact mk_nils
    · cases hk
theorem snd_sliceS {t : TypeId} {v : Value} {p q : PV} {lo hi : Option Value} {mx : Option Value} {plo phi pmx : Option PV} (hu : P.underlying t = some .string) (hv : VRep G h w D v p)
    (h1 : OV G h w lo plo) (h2 : OV G h w hi phi) (h3 : OV G h w mx pmx) (hk : sliceP true 0 p plo phi pmx = some q) :
    ∃ u, (Instr.sliceAt t v lo hi mx).run P w = .ok u w ∧ VRep G h w D u q := by
  unfold sliceP at hk
  split at hk
  · cases hk
  rename_i hst
  cases p <;> (try (simp [isStr] at hst; done)) <;> simp only [] at hk
  case str s =>
    split at hk
    · cases hk
    · rename_i hmx
      obtain rfl : pmx = none := by cases pmx <;> simp at hmx; rfl
      obtain rfl : mx = none := by cases mx <;> simp [OV] at h3; rfl
      split at hk
      · rename_i l u hb
        cases hk
        obtain rfl := rep_str hv
        obtain ⟨hb, b1, b2⟩ := run_sliceBounds (P := P) (isS := false) (Nat.le_refl s.size) h1 h2 h3 hb
        refine ⟨_, ?_, mk_str⟩
        simp [Instr.sliceAt, Instr.slice, run_underlying hu, hb]
      · cases hk
end
end Go.Proofs.Ytalgbgeocpbadaa.Am
