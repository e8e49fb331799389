/-
  Chapter 26: StrikeRaises.
-/
import Derived.Test.YtalgbgeocpbadaaKsA
import Derived.Test.YtalgbgeocpbadaaKpX
namespace Go.Proofs.Ytalgbgeocpbadaa.K
set_option linter.unusedSimpArgs false
set_option linter.unusedVariables false
set_option linter.unusedSectionVars false
open Go.Proofs.Ytalgbgeocpbadaa.Am
set_option maxHeartbeats 4000000
theorem Raises_fn (a b : Int) (l : List (Int × Int)) (most : Int) (ha : 0 ≤ a ∧ a ≤ 255) (hb : 0 ≤ b ∧ b ≤ 255) (hl : ∀ p ∈ l, (0 ≤ p.1 ∧ p.1 ≤ 255) ∧ (0 ≤ p.2 ∧ p.2 ≤ 255)) (hm : 0 ≤ most ∧ most ≤ 255) :
    Am.Fn Try.prog 4 [0] [RAW a b l, .int .u8 most] (.bool true) := by
  obtain ⟨w, h, u, d, M, hM⟩ := Made_fn a b l ha hb hl
  have hv := M.valid
  obtain ⟨n, hn, n1, n2⟩ : ∃ n : Nat, IntKind.i64.wrap (1 + IntKind.i64.wrap (most.tmod 64)) = (n : Int) ∧ 1 ≤ n ∧ n ≤ 64 := by
    rw [Int.tmod_eq_emod_of_nonneg hm.1, wrap_ok (n := most % 64) (by omega) (by omega), wrap_ok (by omega) (by omega)]
    exact ⟨(1 + most % 64).toNat, by omega, by omega, by omega⟩
  have hP := Plan_fn w h n u d hv n1 n2
  have hS := plan_sks hv n1 n2
  have hA := apply_fn w h _ hS
  rw [applyO_plan M n1] at hA
  obtain ⟨w0, w1, w2, h0, h1, h2, lu, ld, wu, wd⟩ := M
  have hR4 := SameResult_fn w h w h ((planG w n 0 u d).length : Nat) 0 ((planG w n 0 u d).length : Nat) 0 u d u d ⟨by omega, fun r hr => by rw [wu r hr]; omega⟩ ⟨by omega, fun r hr => by rw [wd r hr]; omega⟩
  rw [decide_eq_true ⟨rfl, rfl, rfl, rfl, rfl, rfl⟩] at hR4
  generalize planG w n 0 u d = P at hP hS hA hR4
  have fu : List.take h (List.map (frzE ∘ UW) u) = u.map RW := by rw [← lu]; exact frz_take u
  have fv : List.take h (List.map (frzE ∘ UW) d) = d.map RW := by rw [← ld]; exact frz_take d
  have e1 := frz_uw u
  have e2 := frz_uw d
  refine fn_introX mixed (X := X4) c4 7 (by simp [X4]) fun Q hR hN => ?_
  simp [X4]
  refine call_of sanity_fn ?_
  simp
  refine call_of hM ?_
  simp [e1, e2, frz_rw, hn]
  refine call_of hP ?_
  simp [frz_stC]
  refine call_of hA ?_
  simp [lu, ld, fu, fv]
  refine call_of hR4 ?_
  simp
  refine hR _ _ ?_
  simp [X4]
end Go.Proofs.Ytalgbgeocpbadaa.K
