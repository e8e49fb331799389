/-
  Chapter 23: what Best gives is a list of few numbers.
-/
import Derived.Test.YtnipkbhgaljcoaaVgA
namespace Go.Proofs.Ytnipkbhgaljcoaa.V
set_option linter.unusedSimpArgs false
set_option linter.unusedVariables false
set_option linter.unusedSectionVars false
open Go.Proofs.Ytnipkbhgaljcoaa.Am
def few (r : PV) : Prop := ∃ f : Bool, r = .tup [.nils, .bool f] ∨ ∃ E : List Int, E.length ≤ 9 ∧ r = .tup [.uslc (E.map I), .bool f]
theorem take_ml {α : Type} (f : α → PV) (l : List α) : List.take l.length (List.map f l) = List.map f l := List.take_of_length_le (by simp)
set_option maxHeartbeats 1000000 in
theorem Best_fn (c : List (List Int)) (b : List Bool) (m : Int) (hc : c.length ≤ maxLen) (hb : b.length ≤ 9) : ∃ r, few r ∧ Am.Fn Try.prog 9 [1, 0] [Bk c b m] r := by
  refine fn_introE mixed (X := X9) c9 10 (by simp [X9]) fun Q hR hN => ?_
  obtain ⟨n, hn⟩ : ∃ n, b.length = n := ⟨_, rfl⟩
  have hbm : b.length < maxLen := by unfold maxLen; omega
  by_cases h0 : n = 0
  · subst h0
    simp [X9, r_nil, storeP, hn]
    refine hR (.tup [.nils, .bool true]) _ _ ⟨true, .inl rfl⟩ ?_
    simp [X9, fin]
  · have w1 : IntKind.i64.wrap ((n : Int) - 1) = ((n - 1 : Nat) : Int) := by rw [wrap_ok (by omega) (by omega)]; omega
    obtain ⟨M, hM, hMx⟩ : ∃ M : Int, IntKind.i64.wrap (2 ^ min (n - 1) IntKind.i64.bits) = M ∧ M ≤ 9223372036854775807 := by
      refine ⟨_, rfl, ?_⟩
      simp [IntKind.wrap, IntKind.signed, IntKind.bits]
      omega
    simp [X9, r_nil, storeP, hn, h0]
    refine loopX (fun (bits : Int) vs h => 0 ≤ bits ∧ ∃ (A : List Int) (f : Bool), A.length ≤ 9 ∧
      vs = [.undef, .ptr 7 1 0, .undef, .undef, I n, .own 8 1 A.length 1 0 A.length, .bool f, I bits, .undef, .undef, .undef, .undef, .undef, .undef, .undef] ∧
      h = List.replicate 7 (0, .dead) ++ [(1, .var [LL c, BL b, I m]), (1, .arr 1 0 false (A.map I)), (0, .dead)]) (fun bits => (M - bits).toNat) 0 ?_ ?_
    · simp [settled, settled, storeP]
    · rintro bits vs h ⟨hb0, A, f, hA, rfl, rfl⟩ Q hK hX hR'
      by_cases ht : bits < M
      · have w2 : IntKind.i64.wrap (bits + 1) = bits + 1 := wrap_ok (by omega) (by omega)
        simp [r_nil, storeP, w1, hM, ht]
        refine loopX (fun (i : Nat) vs h => 1 ≤ i ∧ i ≤ n ∧ ∃ (E : List Int), E.length + 1 ≤ i ∧
          vs = [.undef, .ptr 7 1 0, .undef, .undef, I n, .own 8 1 A.length 1 0 A.length, .bool f, I bits, .own 9 1 E.length 1 0 E.length, I i, .undef, .undef, .undef, .undef, .undef] ∧
          h = List.replicate 7 (0, .dead) ++ [(1, .var [LL c, BL b, I m]), (1, .arr 1 0 false (A.map I)), (1, .arr 1 0 false (E.map I))]) (fun i => n - i) 1 ?_ ?_
        · simp [settled, settled, storeP]
          omega
        · rintro i vs h ⟨h1, h2, E, hE, rfl, rfl⟩ Q hK2 hX2 hR2
          have b1 : (E.length + 1) * 8 ≤ 140737488355328 := by omega
          by_cases hi : i < n
          · have w3 : IntKind.i64.wrap ((i : Int) - 1) = ((i - 1 : Nat) : Int) := by rw [wrap_ok (by omega) (by omega)]; omega
            have w4 : IntKind.i64.wrap ((i : Int) + 1) = (i : Int) + 1 := wrap_ok (by omega) (by omega)
            simp [r_nil, storeP, hi, w3]
            refine cond_of rfl (fun _ => ?_) (fun _ => ?_)
            · simp [r_nil, storeP, w4, b1]
              refine hK2 (i + 1) _ _ (by omega) ?_
              simp [settled, settled, storeP]
              exact ⟨by omega, E ++ [(i : Int)], by simp; omega, by simp, by simp⟩
            · simp [r_nil, storeP, w4]
              refine hK2 (i + 1) _ _ (by omega) ?_
              simp [settled, settled, storeP]
              exact ⟨by omega, E, by omega, rfl, rfl⟩
          · simp [r_nil, storeP, hi]
            refine hX2 _ _ _ ?_
            obtain ⟨E', hE', hEl⟩ : ∃ E' : List Int, E ++ [(n : Int)] = E' ∧ E'.length = E.length + 1 := ⟨_, rfl, by simp⟩
            have em : List.map I E ++ [PV.int IntKind.i64 (n : Int)] = List.map I E' := by rw [← hE']; simp
            have tk : List.take (E.length + 1) (List.map I E') = List.map I E' := List.take_of_length_le (by simp [hEl])
            simp [r_nil, storeP, callOk, b1, em, hEl, tk]
            refine call_of (Fits_fn c b m E' hc hbm (by unfold maxLen; omega)) ?_
            cases h5 : fits c b m E' with
            | false =>
              simp [r_nil, storeP, callOk, w2]
              refine hK (bits + 1) _ _ (by omega) ?_
              simp [settled, settled, storeP]
              exact ⟨by omega, A, hA, rfl, rfl⟩
            | true =>
              cases f with
              | false =>
                simp [r_nil, storeP, callOk, w2]
                refine hK (bits + 1) _ _ (by omega) ?_
                simp [settled, settled, storeP]
                exact ⟨by omega, E', by omega, hEl.symm, rfl⟩
              | true =>
                simp [r_nil, storeP, callOk, w2, hEl, tk, take_ml]
                refine call_of (better_fn E' A (by unfold maxLen; omega) (by unfold maxLen; omega)) ?_
                cases h6 : bet E' A with
                | false =>
                  simp [r_nil, storeP, callOk, w2]
                  refine hK (bits + 1) _ _ (by omega) ?_
                  simp [settled, settled, storeP]
                  exact ⟨by omega, A, hA, rfl, rfl⟩
                | true =>
                  simp [r_nil, storeP, callOk, w2]
                  refine hK (bits + 1) _ _ (by omega) ?_
                  simp [settled, settled, storeP]
                  exact ⟨by omega, E', by omega, hEl.symm, rfl⟩
      · simp [r_nil, storeP, w1, hM, ht]
        refine hX _ _ _ ?_
        simp [r_nil, storeP]
        refine hR (.tup [.uslc (A.map I), .bool f]) _ _ ⟨f, .inr ⟨A, hA, rfl⟩⟩ ?_
        simp [X9, fin, storeP]
end Go.Proofs.Ytnipkbhgaljcoaa.V
