/-
  Chapter 20: what stands ahead of the last column.
-/
import Derived.Test.YtfpkcjjgooigbaaQCpA
namespace Go.Proofs.Ytfpkcjjgooigbaa.C
set_option linter.unusedSimpArgs false
set_option linter.unusedVariables false
set_option linter.unusedSectionVars false
open Go.Proofs.Ytfpkcjjgooigbaa.Am
open Go.Proofs.Ytfpkcjjgooigbaa.L (mixed wrap_ok I U CL CLL UCL Word clean words zeros)
set_option maxHeartbeats 8000000
abbrev WA (rows : List Row) : List PV := [I (colW rows 0), I (colW rows 1), I (colW rows 2), I (colW rows 3)]
theorem WA_get (rows : List Row) {k : Nat} (hk : k < 4) : (WA rows)[k]'(by simpa using hk) = I (colW rows k) := by
  have : k = 0 ∨ k = 1 ∨ k = 2 ∨ k = 3 := by omega
  rcases this with rfl | rfl | rfl | rfl <;> rfl
theorem ahead_fn (rows : List Row) (E : Ev rows) : Am.Fn Try.prog 36 [0] [RWS rows] (I (2 * (nc rows - 1) + sumW rows (nc rows - 1) : Nat)) := by
  obtain ⟨hp, h1, h4, ha, hl, he⟩ := id E
  have hc := nc_eq hp
  have hW := widths_fn rows E
  obtain ⟨n, hn⟩ : ∃ n, n = nc rows - 1 := ⟨_, rfl⟩
  rw [← hn]
  have w0 : IntKind.i64.wrap ((nc rows : Int) - 1) = (n : Int) := by rw [wrap_ok (by omega) (by omega)]; omega
  have w1 : IntKind.i64.wrap (2 * (n : Int)) = ((2 * n : Nat) : Int) := by rw [wrap_ok (by omega) (by omega)]; omega
  obtain ⟨n0, hn0⟩ : ∃ n0, n0 = 2 * n := ⟨_, rfl⟩
  rw [← hn0] at w1 ⊢
  have hn4 : (n : Int) ≤ 4 := by omega
  refine fn_introX mixed (X := X36) c36 2 (by simp [X36]) fun Q hR hN => ?_
  simp [X36, hp, hc, w0, w1]
  refine call_of hW ?_
  simp [hp, hc, w0, w1, hn4]
  refine loopX (fun (k : Nat) vs h => k ≤ n ∧ vs = [.undef, .undef, .undef, .undef, I (n0 + sumW rows k : Nat), .undef, .own 1 1 4 1 0 n, I n, I k, .undef] ∧ h = [dd, (1, .arr 1 0 false (WA rows))]) (fun k => n - k) 0 ?_ ?_
  · simp [sumW]
  · rintro k vs h ⟨g1, rfl, rfl⟩ Q' hK hX hR'
    by_cases hk : k < n
    · have hsle := sumW_le E k
      have hcw := colW_le E k
      have hg := WA_get rows (show k < 4 by omega)
      have w3 : IntKind.i64.wrap (((n0 + sumW rows k : Nat) : Int) + (colW rows k : Int)) = ((n0 + sumW rows (k + 1) : Nat) : Int) := by
        have e1 : sumW rows (k + 1) = sumW rows k + colW rows k := rfl
        rw [wrap_ok (by omega) (by omega), e1]; omega
      have w4 : IntKind.i64.wrap ((k : Int) + 1) = ((k + 1 : Nat) : Int) := wrap_ok (by omega) (by omega)
      obtain ⟨s, hs⟩ : ∃ s, s = n0 + sumW rows k := ⟨_, rfl⟩
      rw [← hs] at w3 ⊢
      have hk4 : k < 4 := by omega
      have hg' : (WA rows)[k]? = some (I (colW rows k)) := by rw [List.getElem?_eq_getElem (by simpa using hk4), hg]
      have hwl : (WA rows).length = 4 := rfl
      have hwr : (∀ x, x ∈ WA rows → noRefE x = true) = True := eq_true (by intro x hx; simp at hx; rcases hx with rfl | rfl | rfl | rfl <;> rfl)
      generalize hwa : WA rows = wa at hg' hwl hwr
      simp [hk, hg', hwl, w3, w4]
      refine hK (k + 1) _ _ (by omega) ?_
      simp [hwr, hwa]
      omega
    · obtain rfl : k = n := by omega
      simp
      refine hX _ _ _ ?_
      simp
      refine hR _ _ ?_
      simp [X36]
end Go.Proofs.Ytfpkcjjgooigbaa.C
