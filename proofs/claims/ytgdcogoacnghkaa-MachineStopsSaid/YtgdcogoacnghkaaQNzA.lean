/-
  Chapter 27: a strike is made.
-/
import Derived.Test.YtgdcogoacnghkaaQNyA
namespace Go.Proofs.Ytgdcogoacnghkaa.N
set_option linter.unusedSimpArgs false
set_option linter.unusedVariables false
set_option linter.unusedSectionVars false
open Go.Proofs.Ytgdcogoacnghkaa.Am
set_option maxHeartbeats 4000000
theorem alive_snoc {pin : Int} {w l : List Int} {k : Nat} (h : k < l.length) : alive pin w (l.take (k + 1)) = alive pin w (l.take k) ++ if (pin + l[k]) ∈ w then [] else [l[k]] := by
  unfold alive
  rw [take_snoc h, List.filter_append]
  congr 1
  by_cases hc : (pin + l[k]) ∈ w <;> simp [hc]
theorem modR_app {d : List (List Bool)} {k x : Nat} {l : List Int} (hk : k < (modR d k l).length) : (modR d k l).set k ((modR d k l)[k].set x true) = modR d k (l ++ [(x : Int)]) := by
  have h := modR_snoc (d := d) (k := k) (i := l.length) (x := x) (l := l ++ [(x : Int)]) (by simp) (by rw [modR_len]; rw [modR_len] at hk; exact hk) (by simp)
  simp only [List.take_left'] at h
  rw [show List.take (l.length + 1) (l ++ [(x : Int)]) = l ++ [(x : Int)] from List.take_of_length_le (by simp)] at h
  exact h
structure Stk48 (s : Stk) : Prop where
  row : 0 ≤ s.row ∧ s.row < 12
  lu : s.up.length ≤ 1000
  ld : s.down.length ≤ 1000
  bu : ∀ x ∈ s.up, 0 ≤ x ∧ x < 48
  bd : ∀ x ∈ s.down, 0 ≤ x ∧ x < 48
section
variable (r0 r1 r2 r3 r4 r5 r6 r7 r8 r9 r10 r11 r12 r13 r14 r15 r17 r18 r23 r24 r25 r26 r27 : Row)
theorem strike_fi (k a : Nat) (w : List Int) (U D : List (List Bool)) (s : Stk) (hk : k ≤ 100000) (ha : a ≤ 100000) (hs : Stk48 s) (hU : U.length = 12) (hD : D.length = 12) (wU : Wid 48 U) (wD : Wid 48 D) : ∃ x : Row, FI Try.prog (.fn (.func 36) [] []) [.ptr 16 1 0, stC s] [r0, r1, r2, r3, r4, r5, r6, r7, r8, r9, r10, r11, r12, r13, r14, r15, eRow k a w false, r17, r18, dRow U, dRow D, wRow w, sRow27 w, r23, r24, r25, r26, r27] (.tup []) [(16, eRow (k + 1) a w false), (19, dRow (hitR U (s.row + a) (alive 0 w s.up))), (20, dRow (hitR D (s.row + a) (alive 48 w s.down))), (24, x)] := by
  obtain ⟨sr, up, down⟩ := s
  obtain ⟨hr, lu, ld, bu, bd⟩ := hs
  dsimp only at hr lu ld bu bd ⊢
  obtain ⟨y0, rfl⟩ : ∃ y0 : Nat, sr = y0 := ⟨sr.toNat, by omega⟩
  have hw1 : IntKind.i64.wrap ((k : Int) + 1) = ((k + 1 : Nat) : Int) := wrap_ok (by omega) (by omega)
  have hw2 : IntKind.i64.wrap ((y0 : Int) + (a : Int)) = ((y0 + a : Nat) : Int) := wrap_ok (by omega) (by omega)
  by_cases hy : y0 + a < 12
  case neg =>
    have e1 : ∀ d l, hitR d ((y0 : Int) + a) l = d := fun d l => if_neg (by omega)
    rw [e1, e1]
    refine ⟨(r24.1 + 1, .var [I y0, IL up, IL down]), ?_⟩
    refine fn_introXI mixed (X := X36) c36 (by simp [X36]) (by simp) fun Q hR hN => ?_
    have hy' : (12 : Int) ≤ (y0 : Int) + a := by omega
    simp [X36, hw1, hw2, hy']
    refine hR _ _ ?_
    simp [X36, finI]
  obtain ⟨y, hyy⟩ : ∃ y, y0 + a = y := ⟨_, rfl⟩
  have e1 : ∀ d l, hitR d ((y0 : Int) + a) l = modR d y l := fun d l => by
    unfold hitR; rw [if_pos (by omega), show ((y0 : Int) + a).toNat = y by omega]
  rw [e1, e1]
  rw [hyy] at hw2 hy
  have hyi : ¬ (12 : Int) ≤ (y : Int) := by omega
  have hyi2 : (y : Int) < 12 := by omega
  refine ⟨(r24.1 + 1, .var [I y0, IL up, IL down]), ?_⟩
  refine fn_introXI mixed (X := X36) c36 (by simp [X36]) (by simp) fun Q hR hN => ?_
  simp [X36, hw1, hw2, hyi]
  refine loopR (fun (p : Nat × List (List Bool)) vs h => p.1 ≤ up.length ∧ p.2 = modR U y (alive 0 w (up.take p.1)) ∧ (∃ x4 x10 x11, vs = [.ptr 16 1 0, stC ⟨y0, up, down⟩, .ptr 24 (r24.1 + 1) 0, I y, x4, .undef, .bool false, IL up, I up.length, I p.1, x10, x11, .undef, .undef, .undef, .undef, .undef]) ∧
    h = [r0, r1, r2, r3, r4, r5, r6, r7, r8, r9, r10, r11, r12, r13, r14, r15, eRow (k + 1) a w false, r17, r18, dRow p.2, dRow D, wRow w, sRow27 w, r23, (r24.1 + 1, .var [I y0, IL up, IL down]), r25, r26, r27]) (fun p => up.length - p.1) (0, U) ?_ ?_
  · simp [alive, modR_nil]
  · rintro ⟨j, V⟩ vs h ⟨h1, h2, ⟨x4, x10, x11, rfl⟩, rfl⟩ Q' hK hX hR'
    dsimp only at h1 h2
    have lV : V.length = 12 := by rw [h2, modR_len, hU]
    have wV : Wid 48 V := by rw [h2]; exact modR_wid wU
    have hyV : y < V.length := by omega
    have wVy := wid_get wV hyV
    by_cases hj : j < up.length
    · have hw3 : IntKind.i64.wrap ((j : Int) + 1) = ((j + 1 : Nat) : Int) := wrap_ok (by omega) (by omega)
      obtain ⟨b1, b2⟩ := bu _ (List.getElem_mem hj)
      obtain ⟨x, hx⟩ : ∃ x : Nat, up[j] = x := ⟨up[j].toNat, by omega⟩
      have hx1 : x < 48 := by omega
      have hx2 : x < 96 := by omega
      have hx3 : (x : Int) < 96 := by omega
      have hx4 : (x : Int) < 48 := by omega
      have hsn := alive_snoc (pin := 0) (w := w) hj
      rw [hx, Int.zero_add] at hsn
      by_cases t : (x : Int) ∈ w
      · rw [if_pos t, List.append_nil] at hsn
        simp [hj, hx, hx2, hx3, spent_get, t, hw3]
        refine hK (j + 1, V) _ _ (by dsimp only; omega) ?_
        simp
        exact ⟨by omega, by rw [hsn, h2]⟩
      · rw [if_neg t] at hsn
        have e := modR_app (d := U) (k := y) (x := x) (l := alive 0 w (up.take j)) (by rw [← h2]; exact hyV)
        have e' : V.set y (V[y].set x true) = modR U y (alive 0 w (up.take (j + 1))) := by rw [hsn, ← e]; subst h2; rfl
        simp [hj, hx, hx1, hx2, hx3, hx4, spent_get, t, hw3, lV, hy, hyi2, hyV, wVy]
        rw [uw_set, e']
        refine hK (j + 1, modR U y (alive 0 w (up.take (j + 1)))) _ _ (by dsimp only; omega) ?_
        simp [modR_len, hU]
        omega
    · rw [List.take_of_length_le (by omega)] at h2
      simp [hj]
      refine hX _ _ _ ?_
      simp
      clear hK hX hR'
      refine loopR (fun (p : Nat × List (List Bool)) vs h => p.1 ≤ down.length ∧ p.2 = modR D y (alive 48 w (down.take p.1)) ∧ (∃ x4 x5 x9 x10 x11 x15 x16, vs = [.ptr 16 1 0, stC ⟨y0, up, down⟩, .ptr 24 (r24.1 + 1) 0, I y, x4, x5, .bool false, IL up, I up.length, x9, x10, x11, IL down, I down.length, I p.1, x15, x16]) ∧
        h = [r0, r1, r2, r3, r4, r5, r6, r7, r8, r9, r10, r11, r12, r13, r14, r15, eRow (k + 1) a w false, r17, r18, dRow V, dRow p.2, wRow w, sRow27 w, r23, (r24.1 + 1, .var [I y0, IL up, IL down]), r25, r26, r27]) (fun p => down.length - p.1) (0, D) ?_ ?_
      · simp [alive, modR_nil]
      · rintro ⟨j, Z⟩ vs h ⟨g1, g2, ⟨x4, x5, x9, x10, x11, x15, x16, rfl⟩, rfl⟩ Q' hK hX hR'
        dsimp only at g1 g2
        have lZ : Z.length = 12 := by rw [g2, modR_len, hD]
        have wZ : Wid 48 Z := by rw [g2]; exact modR_wid wD
        have hyZ : y < Z.length := by omega
        have wZy := wid_get wZ hyZ
        by_cases hj : j < down.length
        · have hw3 : IntKind.i64.wrap ((j : Int) + 1) = ((j + 1 : Nat) : Int) := wrap_ok (by omega) (by omega)
          obtain ⟨b1, b2⟩ := bd _ (List.getElem_mem hj)
          obtain ⟨x, hx⟩ : ∃ x : Nat, down[j] = x := ⟨down[j].toNat, by omega⟩
          have hx1 : x < 48 := by omega
          have hx2 : 48 + x < 96 := by omega
          have hx3 : 48 + (x : Int) < 96 := by omega
          have hx5 : 0 ≤ 48 + (x : Int) := by omega
          have hx6 : (48 + (x : Int)).toNat = 48 + x := by omega
          have hx4 : (x : Int) < 48 := by omega
          have hw4 : IntKind.i64.wrap (48 + (x : Int)) = ((48 + x : Nat) : Int) := wrap_ok (by omega) (by omega)
          have hsn := alive_snoc (pin := 48) (w := w) hj
          rw [hx] at hsn
          by_cases t : 48 + (x : Int) ∈ w
          · have t' : ((48 + x : Nat) : Int) ∈ w := by simpa using t
            rw [if_pos t, List.append_nil] at hsn
            simp [hj, hx, hx2, hx3, hx5, hx6, hw4, spent_get, t, t', hw3]
            refine hK (j + 1, Z) _ _ (by dsimp only; omega) ?_
            simp
            exact ⟨by omega, by rw [hsn, g2]⟩
          · have t' : ¬ ((48 + x : Nat) : Int) ∈ w := by simpa using t
            rw [if_neg t] at hsn
            have e := modR_app (d := D) (k := y) (x := x) (l := alive 48 w (down.take j)) (by rw [← g2]; exact hyZ)
            have e' : Z.set y (Z[y].set x true) = modR D y (alive 48 w (down.take (j + 1))) := by rw [hsn, ← e]; subst g2; rfl
            simp [hj, hx, hx1, hx2, hx3, hx4, hx5, hx6, hw4, spent_get, t, t', hw3, lZ, hy, hyi2, hyZ, wZy]
            rw [uw_set, e']
            refine hK (j + 1, modR D y (alive 48 w (down.take (j + 1)))) _ _ (by dsimp only; omega) ?_
            simp [modR_len, hD]
            omega
        · rw [List.take_of_length_le (by omega)] at g2
          simp [hj]
          refine hX _ _ _ ?_
          simp
          refine hN _ _ ?_
          simp [X36, finI, h2, g2]
end
end Go.Proofs.Ytgdcogoacnghkaa.N
