/-
  Chapter 26: the plan of the program is that of the reference.
-/
import Derived.Test.YtalgbgeocpbadaaKrA
import Derived.Test.YtalgbgeocpbadaaKpX
namespace Go.Proofs.Ytalgbgeocpbadaa.K
set_option linter.unusedSimpArgs false
set_option linter.unusedVariables false
set_option linter.unusedSectionVars false
open Go.Proofs.Ytalgbgeocpbadaa.Am
set_option maxHeartbeats 4000000
theorem Matches_fn (a b : Int) (l : List (Int × Int)) (most n : Int) (ha : 0 ≤ a ∧ a ≤ 255) (hb : 0 ≤ b ∧ b ≤ 255) (hl : ∀ p ∈ l, (0 ≤ p.1 ∧ p.1 ≤ 255) ∧ (0 ≤ p.2 ∧ p.2 ≤ 255)) (hm : -128 ≤ most ∧ most ≤ 127) (hn : 0 ≤ n ∧ n ≤ 255) :
    Am.Fn Try.prog 3 [0] [RAW a b l, .int .i8 most, .int .u8 n] (.bool true) := by
  obtain ⟨w, h, u, d, M, hM⟩ := Made_fn a b l ha hb hl
  refine fn_introX mixed (X := X3) c3 9 (by simp [X3]) fun Q hR hN => ?_
  simp [X3]
  refine call_of sanity_fn ?_
  simp
  refine call_of hM ?_
  have hv := M.valid
  obtain ⟨w0, w1, w2, h0, h1, h2, lu, ld, wu, wd⟩ := M
  have e1 := frz_uw u
  have e2 := frz_uw d
  have wm : IntKind.i64.wrap most = most := wrap_ok (by omega) (by omega)
  obtain ⟨x, hx, hx2⟩ : ∃ x : Nat, IntKind.i64.wrap ((w : Int) + IntKind.i64.wrap (n.tmod 3)) = ((w + x : Nat) : Int) ∧ x ≤ 2 := by
    rw [Int.tmod_eq_emod_of_nonneg hn.1, wrap_ok (n := n % 3) (by omega) (by omega), wrap_ok (by omega) (by omega)]
    exact ⟨(n % 3).toNat, by omega, by omega⟩
  obtain ⟨y, hy, hy2⟩ : ∃ y : Nat, IntKind.i64.wrap ((h : Int) + IntKind.i64.wrap ((IntKind.u8.wrap (n.tdiv 3)).tmod 2)) = ((h + y : Nat) : Int) ∧ y ≤ 1 := by
    rw [Int.tdiv_eq_ediv_of_nonneg hn.1, u8_ok (by omega) (by omega), Int.tmod_eq_emod_of_nonneg (by omega), wrap_ok (n := n / 3 % 2) (by omega) (by omega), wrap_ok (by omega) (by omega)]
    exact ⟨(n / 3 % 2).toNat, by omega, by omega⟩
  generalize hW : w + x = W at hx
  generalize hH : h + y = H at hy
  have hD := Dots_fn w h u d (by omega) (by omega) (fun r hr => by rw [wu r hr]; omega) (fun r hr => by rw [wd r hr]; omega)
  have hD2 := RDots_fn w h u d (by omega) (by omega) lu ld wu wd
  generalize cntD u + cntD d = dots at hD hD2
  have hS0 := Same_fn [] [] ⟨by simp, by simp⟩
  simp [e1, e2, wm, frz_rw]
  by_cases t : 1 ≤ most ∧ most ≤ 64
  · obtain ⟨m, rfl⟩ : ∃ m : Nat, most = m := ⟨most.toNat, by omega⟩
    have m1 : 1 ≤ m := by omega
    have m2 : m ≤ 64 := by omega
    have hP := Plan_fn w h m u d hv m1 m2
    have hP2 := RPlan_fn w h m u d hv m1 m2
    have hS := Same_fn _ (planG w m 0 u d) (plan_sks hv m1 m2)
    generalize planG w m 0 u d = P at hP hP2 hS
    refine call_of hP ?_
    simp [wm, frz_rw]
    refine call_of hP2 ?_
    simp [wm, frz_rw, hx, hy]
    by_cases hv2 : validB W H u d = true
    · have hP3 := Plan_fn W H m u d hv2 m1 m2
      have hP4 := RPlan_fn W H m u d hv2 m1 m2
      have hS2 := Same_fn _ (planG W m 0 u d) (plan_sks hv2 m1 m2)
      generalize planG W m 0 u d = P2 at hP3 hP4 hS2
      refine call_of hP3 ?_
      simp [wm, frz_rw]
      refine call_of hP4 ?_
      simp [frz_stC, frz_stU]
      refine call_of hS ?_
      simp [frz_stC, frz_stU]
      refine call_of hS2 ?_
      simp
      refine call_of hD ?_
      simp
      refine call_of hD2 ?_
      simp
      refine hR _ _ ?_
      simp [X3]
    · have hv2 : validB W H u d = false := by simpa using hv2
      refine call_of (Plan_plate W H m u d (by omega) (by omega) (by omega) (by omega) (by omega) (by omega) hv2) ?_
      simp [wm, frz_rw]
      refine call_of (RPlan_plate W H m u d (by omega) (by omega) (by omega) (by omega) (by omega) (by omega) hv2) ?_
      simp [frz_stC, frz_stU]
      refine call_of hS ?_
      simp [frz_stC, frz_stU]
      refine call_of hS0 ?_
      simp
      refine call_of hD ?_
      simp
      refine call_of hD2 ?_
      simp
      refine hR _ _ ?_
      simp [X3]
  · have t' : most < 1 ∨ 64 < most := by omega
    refine call_of (Plan_arg w h most u d t') ?_
    simp [wm, frz_rw]
    refine call_of (RPlan_arg w h most u d t') ?_
    simp [wm, frz_rw, hx, hy]
    refine call_of (Plan_arg W H most u d t') ?_
    simp [wm, frz_rw]
    refine call_of (RPlan_arg W H most u d t') ?_
    simp
    refine call_of hS0 ?_
    simp
    refine call_of hS0 ?_
    simp
    refine call_of hD ?_
    simp
    refine call_of hD2 ?_
    simp
    refine hR _ _ ?_
    simp [X3]
end Go.Proofs.Ytalgbgeocpbadaa.K
