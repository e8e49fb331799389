/-
  Chapter 28: records decoded.
-/
import Derived.Test.YtkfjnbljegoomaaQJgA
namespace Go.Proofs.Ytkfjnbljegoomaa.J
set_option linter.unusedSimpArgs false
set_option linter.unusedVariables false
set_option linter.unusedSectionVars false
open Go.Proofs.Ytkfjnbljegoomaa.Am
set_option maxHeartbeats 8000000
theorem num_range {a b c d : Int} (ha : 0 ≤ a ∧ a ≤ 255) (hb : 0 ≤ b ∧ b ≤ 255) (hc : 0 ≤ c ∧ c ≤ 255) (hd : 0 ≤ d ∧ d ≤ 255) : 0 ≤ num4 [a, b, c, d] ∧ num4 [a, b, c, d] ≤ 4294967295 := by
  simp only [num4, List.foldl_cons, List.foldl_nil]; omega
def decT (i : Nat) (p : List Int) : PV := match dec i p with
  | some r => .tup [RC r, .bool true]
  | none => .tup [RC ⟨0, 0, 0⟩, .bool false]
theorem decode_fn (i : Nat) (p : List Int) (hi : i < 1000000) (hp : p.length = 11) (hc : ∀ c ∈ p, 0 ≤ c ∧ c ≤ 255) : Am.Fn Try.prog 28 [0, 0, 0, 0] [I i, BL p] (decT i p) := by
  obtain ⟨e0, e1, e2, e3, e4, e5, e6, e7, e8, e9, e10, rfl⟩ : ∃ e0 e1 e2 e3 e4 e5 e6 e7 e8 e9 e10, p = [e0, e1, e2, e3, e4, e5, e6, e7, e8, e9, e10] := by
    match p, hp with
    | [e0, e1, e2, e3, e4, e5, e6, e7, e8, e9, e10], _ => exact ⟨e0, e1, e2, e3, e4, e5, e6, e7, e8, e9, e10, rfl⟩
  have hm : ∀ x, x ∈ [e0, e1, e2, e3, e4, e5, e6, e7, e8, e9, e10] → 0 ≤ x ∧ x ≤ 255 := hc
  have nA := number_fn [e1, e2, e3, e4] rfl (fun c hc => hm c (by simp at hc ⊢; omega))
  have nB := number_fn [e5, e6, e7, e8] rfl (fun c hc => hm c (by simp at hc ⊢; omega))
  have rA := num_range (hm e1 (by simp)) (hm e2 (by simp)) (hm e3 (by simp)) (hm e4 (by simp))
  have rB := num_range (hm e5 (by simp)) (hm e6 (by simp)) (hm e7 (by simp)) (hm e8 (by simp))
  have r0 := hm e0 (by simp)
  have hR : recOf [e0, e1, e2, e3, e4, e5, e6, e7, e8, e9, e10] = ⟨e0, num4 [e1, e2, e3, e4], num4 [e5, e6, e7, e8]⟩ := rfl
  have hD : decT i [e0, e1, e2, e3, e4, e5, e6, e7, e8, e9, e10] = if okR ⟨e0, num4 [e1, e2, e3, e4], num4 [e5, e6, e7, e8]⟩ ∧ enc i ⟨e0, num4 [e1, e2, e3, e4], num4 [e5, e6, e7, e8]⟩ = [e0, e1, e2, e3, e4, e5, e6, e7, e8, e9, e10] then .tup [RC ⟨e0, num4 [e1, e2, e3, e4], num4 [e5, e6, e7, e8]⟩, .bool true] else .tup [RC ⟨0, 0, 0⟩, .bool false] := by
    unfold decT dec
    rw [hR]
    split <;> rename_i h1 <;> split at h1 <;> first | (cases h1; done) | skip
    · rename_i h2; cases h1; rw [if_pos h2]
    · rename_i h2; rw [if_neg h2]
  generalize decT i [e0, e1, e2, e3, e4, e5, e6, e7, e8, e9, e10] = T at hD
  clear hR
  generalize num4 [e1, e2, e3, e4] = A at nA rA hD
  generalize num4 [e5, e6, e7, e8] = B at nB rB hD
  have w0 : IntKind.i64.wrap e0 = e0 := wrap_ok (by omega) (by omega)
  refine fn_introX mixed (X := X28) c28 4 (by simp [X28]) fun Q hR hN => ?_
  simp [X28, w0]
  refine call_of nA ?_
  simp
  refine call_of nB ?_
  by_cases t1 : e0 < 1
  · have ho : ¬ okR ⟨e0, A, B⟩ := fun h => by have := h.1; dsimp only at this; omega
    simp [t1]
    refine hR _ _ ?_
    rw [if_neg (fun h => ho h.1)] at hD
    simp [X28, hD]
  by_cases t2 : 5 < e0
  · have ho : ¬ okR ⟨e0, A, B⟩ := fun h => by have := h.1; dsimp only at this; omega
    simp [t1, t2]
    refine hR _ _ ?_
    rw [if_neg (fun h => ho h.1)] at hD
    simp [X28, hD]
  by_cases t3 : 2147483647 < A
  · have ho : ¬ okR ⟨e0, A, B⟩ := fun h => by have := h.2.1; dsimp only at this; omega
    simp [t1, t2, t3]
    refine hR _ _ ?_
    rw [if_neg (fun h => ho h.1)] at hD
    simp [X28, hD]
  by_cases t4 : 2147483647 < B
  · have ho : ¬ okR ⟨e0, A, B⟩ := fun h => by have := h.2.2; dsimp only at this; omega
    simp [t1, t2, t3, t4]
    refine hR _ _ ?_
    rw [if_neg (fun h => ho h.1)] at hD
    simp [X28, hD]
  have ho : okR ⟨e0, A, B⟩ := by unfold okR; dsimp only; omega
  have hE := encode_fn i ⟨e0, A, B⟩ hi ho
  have hlE := enc_len i ⟨e0, A, B⟩
  generalize enc i ⟨e0, A, B⟩ = p' at hE hlE hD
  obtain ⟨f0, f1, f2, f3, f4, f5, f6, f7, f8, f9, f10, rfl⟩ : ∃ e0 e1 e2 e3 e4 e5 e6 e7 e8 e9 e10, p' = [e0, e1, e2, e3, e4, e5, e6, e7, e8, e9, e10] := by
    match p', hlE with
    | [e0, e1, e2, e3, e4, e5, e6, e7, e8, e9, e10], _ => exact ⟨e0, e1, e2, e3, e4, e5, e6, e7, e8, e9, e10, rfl⟩
  have hQ := Equal_fn [f0, f1, f2, f3, f4, f5, f6, f7, f8, f9, f10] [e0, e1, e2, e3, e4, e5, e6, e7, e8, e9, e10] (by simp)
  simp [t1, t2, t3, t4]
  refine call_of hE ?_
  simp
  refine call_of hQ ?_
  by_cases he : [f0, f1, f2, f3, f4, f5, f6, f7, f8, f9, f10] = [e0, e1, e2, e3, e4, e5, e6, e7, e8, e9, e10]
  · rw [decide_eq_true he]
    rw [if_pos ⟨ho, he⟩] at hD
    simp
    refine hR _ _ ?_
    simp [X28, hD]
  · rw [decide_eq_false he]
    rw [if_neg (fun h => he h.2)] at hD
    simp
    refine hR _ _ ?_
    simp [X28, hD]
end Go.Proofs.Ytkfjnbljegoomaa.J
