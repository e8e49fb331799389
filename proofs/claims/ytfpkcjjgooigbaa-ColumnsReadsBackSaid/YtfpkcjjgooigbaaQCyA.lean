/-
  Chapter 20: Read in form 1.
-/
import Derived.Test.YtfpkcjjgooigbaaQCxA
namespace Go.Proofs.Ytfpkcjjgooigbaa.C
set_option linter.unusedSimpArgs false
set_option linter.unusedVariables false
set_option linter.unusedSectionVars false
open Go.Proofs.Ytfpkcjjgooigbaa.Am
open Go.Proofs.Ytfpkcjjgooigbaa.L (mixed wrap_ok I U CL CLL UCL Word clean words zeros indent)
set_option maxHeartbeats 8000000
def readP1 (l : List Word) (cols : Nat) : PV := if okC l cols = true ∧ colsL (l.map pieces) = l then .tup [RWS (l.map pieces), I 0] else .tup [.nils, I 200]
theorem Read1_fn (l : List Word) (cols : Nat) (hp : 0 < l.length) (hl : l.length ≤ 100) (hx : ∀ x ∈ l, x.length ≤ 1000) (hc : 1 ≤ cols ∧ cols ≤ 4) : Am.Fn Try.prog 13 [1, 0] [CLL l, I 1, I cols] (readP1 l cols) := by
  have hB := readC_fn l cols hp hl hx hc
  unfold readCP at hB
  unfold readP1
  refine fn_introX mixed (X := X13) c13 3 (by simp [X13]) fun Q hR hN => ?_
  have t1 : ¬ (cols : Int) < 1 := by omega
  have t2 : ¬ (4 : Int) < cols := by omega
  have t3 : ¬ (l.length : Int) = 0 := by omega
  have t4 : ¬ l = [] := List.length_pos_iff.1 hp
  simp [X13, t1, t2, t3, t4]
  refine call_of hB ?_
  by_cases h1 : okC l cols = true
  · by_cases h2 : colsL (l.map pieces) = l
    · rw [if_pos h1]
      rw [if_pos ⟨h1, h2⟩] at hR
      rw [h2]
      generalize l.map pieces = rows at hR
      simp
      refine hR _ _ ?_
      simp [X13]
    · have h3 : (colsL (l.map pieces) == l) = false := by simpa using h2
      rw [if_pos h1, h3]
      rw [if_neg (by rintro ⟨_, h⟩; exact h2 h)] at hR
      simp
      refine hR _ _ ?_
      simp [X13]
  · rw [if_neg h1]
    rw [if_neg (by rintro ⟨h, _⟩; exact h1 h)] at hR
    simp
    refine hR _ _ ?_
    simp [X13]
end Go.Proofs.Ytfpkcjjgooigbaa.C
