/-
  Chapter 18: what Break gives; the reference's.
-/
import Derived.Test.YtnlapjkfbodbkaaLjA
namespace Go.Proofs.Ytnlapjkfbodbkaa.L
set_option linter.unusedSimpArgs false
set_option linter.unusedVariables false
set_option linter.unusedSectionVars false
open Go.Proofs.Ytnlapjkfbodbkaa.Am
set_option maxHeartbeats 2000000
def errR (mk : List PV → PV) (at_ e : Int) : PV := mk [.nils, I at_, I e]
/-- what Break gives -/
def breakR (mk : List PV → PV) (l : Word) (W a b : Int) : PV :=
  if W < 24 ∨ 60 < W ∨ okI a b = false then errR mk 0 1
  else if (clean l).2 = false then errR mk (clean l).1 180
  else if 0 ≤ longG (W - max a b) 0 (words l) then errR mk (longG (W - max a b) 0 (words l)) 181
  else mk [.uslc ((brk W.toNat a.toNat b.toNat (words l)).map UCL), I 0, I 0]
theorem breakRef_fn (l : Word) (W a b : Int) (hl : l.length ≤ 1000) :
    Am.Fn Try.prog 11 [1, 0, 0] [CL l, I W, .agg [I a, I b]] (breakR .agg l W a b) := by
  have hcf := clean_fn l (by unfold maxLen; omega)
  by_cases t1 : W < 24
  · rw [breakR, if_pos (by omega)]
    refine fn_introX mixed (X := X11) c11 20 (by simp [X11]) fun Q hR hN => ?_
    simp [X11, t1]
    refine hR _ _ ?_
    simp [X11, errR]
  by_cases t2 : 60 < W
  · rw [breakR, if_pos (by omega)]
    refine fn_introX mixed (X := X11) c11 20 (by simp [X11]) fun Q hR hN => ?_
    simp [X11, t1, t2]
    refine hR _ _ ?_
    simp [X11, errR]
  by_cases t3 : okI a b = true
  case neg =>
    rw [breakR, if_pos (by simp [t3])]
    refine fn_introX mixed (X := X11) c11 20 (by simp [X11]) fun Q hR hN => ?_
    simp [X11, t1, t2]
    refine call_of (fitsI_fn a b) ?_
    simp [t3]
    refine hR _ _ ?_
    simp [X11, errR]
  have hok := t3
  simp [okI] at t3
  obtain ⟨A, rfl⟩ : ∃ A : Nat, a = A := ⟨a.toNat, by omega⟩
  obtain ⟨B, rfl⟩ : ∃ B : Nat, b = B := ⟨b.toNat, by omega⟩
  obtain ⟨V, rfl⟩ : ∃ V : Nat, W = V := ⟨W.toNat, by omega⟩
  rw [breakR, if_neg (by simp [hok]; omega)]
  cases hc : (clean l).2 with
  | false =>
    rw [if_pos rfl]
    rw [hc] at hcf
    refine fn_introX mixed (X := X11) c11 20 (by simp [X11]) fun Q hR hN => ?_
    simp [X11, t1, t2]
    refine call_of (fitsI_fn A B) ?_
    rw [hok]
    simp
    refine call_of hcf ?_
    simp
    refine hR _ _ ?_
    simp [X11, errR]
  | true =>
    rw [if_neg (by simp)]
    by_cases t4 : 0 ≤ longG ((V : Int) - max (A : Int) B) 0 (words l)
    · rw [if_pos t4]
      rw [hc] at hcf
      have hlf := long_fn l ((V : Int) - max (A : Int) B) (by omega)
      have hmx : ∀ [inst : Decidable (A < B)], (if A < B then (B : Int) else (A : Int)) = max (A : Int) B := by intro _; split <;> omega
      have hsub : IntKind.i64.wrap ((V : Int) - max (A : Int) B) = (V : Int) - max (A : Int) B := wrap_ok (by omega) (by omega)
      refine fn_introX mixed (X := X11) c11 20 (by simp [X11]) fun Q hR hN => ?_
      simp [X11, t1, t2]
      refine call_of (fitsI_fn A B) ?_
      rw [hok]
      simp
      refine call_of hcf ?_
      simp [hmx, hsub]
      refine call_of hlf ?_
      simp [t4]
      refine hR _ _ ?_
      simp [X11, errR]
    · rw [if_neg t4]
      have hl1 : longG ((V : Int) - max (A : Int) B) 0 (words l) = -1 := by
        rcases longG_range (most := (V : Int) - max (A : Int) B) (ws := words l) (a := 0) (by omega) with h | h <;> omega
      simpa using break_ok l V A B hl (by omega) (by omega) (by omega) hc hl1
end Go.Proofs.Ytnlapjkfbodbkaa.L
