/-
  Chapter 27: troubles happen, one after the other.
-/
import Derived.Test.YtgdcogoacnghkaaQNxA
namespace Go.Proofs.Ytgdcogoacnghkaa.N
set_option linter.unusedSimpArgs false
set_option linter.unusedVariables false
set_option linter.unusedSectionVars false
open Go.Proofs.Ytgdcogoacnghkaa.Am
set_option maxHeartbeats 4000000
section
variable (r0 r1 r2 r3 r4 r5 r6 r7 r8 r9 r10 r11 r12 r13 r14 r15 r17 r18 r19 r20 r23 r24 r25 r26 r27 : Row)
theorem suffer_fi (k a : Nat) (w : List Int) (l : List Tr) (ha : a + l.length ≤ 100000) (hl : w.length + l.length ≤ 100000) (R : Bool × Nat × List Int) (hRR : suf l a w = R) : ∃ x y z : Row, FI Try.prog (.fn (.func 35) [] []) [.ptr 16 1 0, TRS l] [r0, r1, r2, r3, r4, r5, r6, r7, r8, r9, r10, r11, r12, r13, r14, r15, eRow k a w false, r17, r18, r19, r20, wRow w, sRow27 w, r23, r24, r25, r26, r27] (.tup []) [(16, eRow k R.2.1 R.2.2 R.1), (21, wRow R.2.2), (22, sRow27 R.2.2), (24, x), (26, y), (27, z)] := by
  suffices hh : ∃ r ws, (∃ x y z : Row, r = .tup [] ∧ ws = [(16, eRow k R.2.1 R.2.2 R.1), (21, wRow R.2.2), (22, sRow27 R.2.2), (24, x), (26, y), (27, z)]) ∧ FI Try.prog (.fn (.func 35) [] []) [.ptr 16 1 0, TRS l] [r0, r1, r2, r3, r4, r5, r6, r7, r8, r9, r10, r11, r12, r13, r14, r15, eRow k a w false, r17, r18, r19, r20, wRow w, sRow27 w, r23, r24, r25, r26, r27] r ws by
    obtain ⟨r, ws, ⟨x, y, z, rfl, rfl⟩, h⟩ := hh; exact ⟨x, y, z, h⟩
  refine fn_introIE mixed (X := X35) c35 (by simp [X35]) (by simp) (by kernel_rfl) fun Q hR hN => ?_
  simp [X35]
  refine loopR (fun (p : Nat × Nat × List Int) vs h => p.1 ≤ l.length ∧ suf (l.drop p.1) p.2.1 p.2.2 = R ∧ p.2.1 ≤ a + p.1 ∧ p.2.2.length ≤ w.length + p.1 ∧ (∃ x2 x3 x4 x8 x9 x10, vs = [.ptr 16 1 0, TRS l, x2, x3, x4, TRS l, I l.length, I p.1, x8, x9, x10]) ∧
    ∃ x24 x26 x27, h = [r0, r1, r2, r3, r4, r5, r6, r7, r8, r9, r10, r11, r12, r13, r14, r15, eRow k p.2.1 p.2.2 false, r17, r18, r19, r20, wRow p.2.2, sRow27 p.2.2, r23, x24, r25, x26, x27]) (fun p => l.length - p.1) (0, a, w) ?_ ?_
  · simp [hRR]
  · rintro ⟨j, b, v⟩ vs h ⟨h1, h2, h3, h4, ⟨x2, x3, x4, x8, x9, x10, rfl⟩, x24, x26, x27, rfl⟩ Q' hK hX hR'
    dsimp only at h1 h2 h3 h4
    by_cases hj : j < l.length
    case neg =>
      rw [List.drop_eq_nil_of_le (by omega), suf] at h2
      subst h2
      simp [hj]
      refine hX _ _ _ ?_
      simp
      refine hN _ _ _ _ ⟨x24, x26, x27, rfl, rfl⟩ ?_
      simp [X35, finI]
    have hw1 : IntKind.i64.wrap ((j : Int) + 1) = ((j + 1 : Nat) : Int) := wrap_ok (by omega) (by omega)
    rw [List.drop_eq_getElem_cons hj, suf] at h2
    simp [hj]
    refine call_of effects_fn ?_
    by_cases t1 : l[j].kind = 1
    · rw [if_pos (.inl t1)] at h2
      subst h2
      simp [hj, t1]
      refine cally_of (stop_fi _ _ _ _ _ _ _ _ _ _ _ _ _ _ _ _ _ _ _ _ _ _ _ _ _ k b v false l[j].n) ?_
      simp
      refine hR' _ _ ?_
      simp
      refine hR _ _ _ _ ⟨(x24.1 + 1, .var [I 1, I l[j].pl, I l[j].n]), x26, x27, rfl, rfl⟩ ?_
      simp [X35, finI]
    by_cases t4 : l[j].kind = 4
    · rw [if_pos (.inr t4)] at h2
      subst h2
      simp [hj, t4]
      refine cally_of (stop_fi _ _ _ _ _ _ _ _ _ _ _ _ _ _ _ _ _ _ _ _ _ _ _ _ _ k b v false l[j].n) ?_
      simp
      refine hR' _ _ ?_
      simp
      refine hR _ _ _ _ ⟨(x24.1 + 1, .var [I 4, I l[j].pl, I l[j].n]), x26, x27, rfl, rfl⟩ ?_
      simp [X35, finI]
    rw [if_neg (by omega)] at h2
    by_cases t2 : l[j].kind = 2
    · rw [if_pos t2] at h2
      simp [hj, t2]
      refine cally_of (slide_fi _ _ _ _ _ _ _ _ _ _ _ _ _ _ _ _ _ _ _ _ _ _ _ _ _ k b v false l[j].n (by omega)) ?_
      simp [hw1]
      refine hK (j + 1, b + 1, v) _ _ (by dsimp only; omega) ?_
      simp [h2]
      omega
    rw [if_neg t2] at h2
    by_cases t3 : l[j].kind = 3
    · rw [if_pos t3] at h2
      obtain ⟨x, y, hF⟩ := wear_fi r0 r1 r2 r3 r4 r5 r6 r7 r8 r9 r10 r11 r12 r13 r14 r15 r17 r18 r19 r20 r23 (x24.1 + 1, .var [I l[j].kind, I l[j].pl, I l[j].n]) r25 x26 x27 k b v false l[j].n (by omega)
      rw [t3] at hF
      have hwl := wear_len l[j].n v
      simp [hj, t3]
      refine cally_of hF ?_
      simp [hw1]
      refine hK (j + 1, b, wear l[j].n v) _ _ (by dsimp only; omega) ?_
      simp [h2]
      omega
    rw [if_neg t3] at h2
    simp [hj, t1, t2, t3, t4, hw1]
    refine hK (j + 1, b, v) _ _ (by dsimp only; omega) ?_
    simp [h2]
    omega
theorem suffer_nil_fi (k a : Nat) (w : List Int) : FI Try.prog (.fn (.func 35) [] []) [.ptr 16 1 0, .nils] [r0, r1, r2, r3, r4, r5, r6, r7, r8, r9, r10, r11, r12, r13, r14, r15, eRow k a w false, r17, r18, r19, r20, wRow w, sRow27 w, r23, r24, r25, r26, r27] (.tup []) [] := by
  refine fn_introXI mixed (X := X35) c35 (by simp [X35]) (by simp) fun Q hR hN => ?_
  simp [X35]
  refine loopR (fun (p : Nat) vs h => vs = [.ptr 16 1 0, .nils, .undef, .undef, .undef, .nils, I 0, I 0, .undef, .undef, .undef] ∧ h = [r0, r1, r2, r3, r4, r5, r6, r7, r8, r9, r10, r11, r12, r13, r14, r15, eRow k a w false, r17, r18, r19, r20, wRow w, sRow27 w, r23, r24, r25, r26, r27]) (fun p => p) 0 ?_ ?_
  · simp
  · rintro p vs h ⟨rfl, rfl⟩ Q' hK hX hR'
    simp
    refine hX _ _ _ ?_
    simp
    refine hN _ _ ?_
    simp [X35, finI]
end
end Go.Proofs.Ytgdcogoacnghkaa.N
