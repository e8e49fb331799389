/-
  Chapter 20: clean cells, even rows.
-/
import Derived.Test.YtfpkcjjgooigbaaQCaP
import Derived.Test.YtfpkcjjgooigbaaQCbX
import Derived.Test.YtfpkcjjgooigbaaQLmA
namespace Go.Proofs.Ytfpkcjjgooigbaa.C
set_option linter.unusedSimpArgs false
set_option linter.unusedVariables false
set_option linter.unusedSectionVars false
open Go.Proofs.Ytfpkcjjgooigbaa.Am
open Go.Proofs.Ytfpkcjjgooigbaa.L (mixed wrap_ok I U CL CLL UCL Word clean words zeros)
set_option maxHeartbeats 8000000
/-- the cells in front of place k are clean -/
def ClAt (l : Word) (k : Nat) : Prop := ∀ (j : Nat), j < k → (∀ c, l[j]? = some c → c ≤ 63) ∧ (0 < j → l[j]? = some 0 → l[j - 1]? ≠ some 0)
theorem Clean_fn (l : Word) (hl : l.length ≤ maxLen) : Am.Fn Try.prog 20 [0] [CL l] (.bool (cl l)) := by
  refine fn_introX mixed (X := X20) c20 0 (by simp [X20]) fun Q hR hN => ?_
  by_cases h0 : l.length = 0
  · obtain rfl := List.length_eq_zero_iff.1 h0
    simp [X20]
    refine hR _ _ ?_
    simp [X20, cl, L.clean, L.cleanG]
  · have hne : ¬ l = [] := fun h => h0 (by rw [h]; rfl)
    have hp : 0 < l.length := by omega
    have hw : IntKind.i64.wrap ((l.length : Int) - 1) = ((l.length - 1 : Nat) : Int) := by rw [wrap_ok (by unfold maxLen at hl; omega) (by unfold maxLen at hl; omega)]; omega
    have hp1 : l.length - 1 < l.length := by omega
    by_cases hz : l[0] = 0
    · have : cl l = false := by
        rw [← Bool.not_eq_true, cl_iff]
        rintro ⟨_, _, h, _⟩
        exact h (by rw [List.head?_eq_getElem?, List.getElem?_eq_getElem hp, hz])
      simp [X20, hne, hp, hz, hw, hp1]
      refine hR _ _ ?_
      simp [X20, this]
    · by_cases hy : l[l.length - 1] = 0
      · have : cl l = false := by
          rw [← Bool.not_eq_true, cl_iff]
          rintro ⟨_, _, _, _, h⟩
          exact h (by rw [List.getLast?_eq_getElem?, List.getElem?_eq_getElem hp1, hy])
        simp [X20, hne, hp, hz, hw, hp1, hy]
        refine hR _ _ ?_
        simp [X20, this]
      · simp [X20, hne, hp, hz, hw, hp1, hy]
        refine loopX (fun (k : Nat) vs h => k ≤ l.length ∧ ClAt l k ∧ vs = [CL l, .undef, I k, .undef, .undef, .undef] ∧ h = []) (fun k => l.length - k) 0 ?_ ?_
        · simp
          intro j hj; omega
        · rintro k vs h ⟨h1, h2, rfl, rfl⟩ Q' hK hX hR'
          by_cases hk : k < l.length
          · have hw1 : IntKind.i64.wrap ((k : Int) + 1) = ((k + 1 : Nat) : Int) := wrap_ok (by omega) (by unfold maxLen at hl; omega)
            by_cases h63 : 63 < l[k]
            · have : cl l = false := by
                rw [← Bool.not_eq_true, cl_iff]
                rintro ⟨_, h, _⟩
                have := h _ (List.getElem_mem hk); omega
              simp [hk, h63]
              refine hR' _ _ ?_
              simp
              refine hR _ _ ?_
              simp [X20, this]
            · by_cases hk0 : k = 0
              · subst hk0
                have w1 : IntKind.i64.wrap 1 = 1 := rfl
                simp [hk, h63, w1]
                refine hK 1 _ _ (by omega) ?_
                simp
                refine ⟨by omega, fun j hj => ?_⟩
                obtain rfl : j = 0 := by omega
                refine ⟨fun c hc => ?_, fun h => by omega⟩
                rw [List.getElem?_eq_getElem hk] at hc; cases hc; omega
              · have hk0' : 0 < k := by omega
                have hk0'' : (0 : Int) < k := by omega
                have hwk : IntKind.i64.wrap ((k : Int) - 1) = ((k - 1 : Nat) : Int) := by rw [wrap_ok (by omega) (by unfold maxLen at hl; omega)]; omega
                have hk1 : k - 1 < l.length := by omega
                by_cases hb : l[k] = 0 ∧ l[k - 1] = 0
                · have : cl l = false := by
                    rw [← Bool.not_eq_true, cl_iff]
                    rintro ⟨_, _, _, h, _⟩
                    exact h (k - 1) (by rw [List.getElem?_eq_getElem hk1, hb.2]) (by rw [show k - 1 + 1 = k by omega, List.getElem?_eq_getElem hk, hb.1])
                  simp [hk, h63, hw1, hk0, hk0', hk0'', hwk, hk1, hb.1, hb.2]
                  refine hR' _ _ ?_
                  simp
                  refine hR _ _ ?_
                  simp [X20, this]
                · have hnext : ClAt l (k + 1) := by
                    intro j hj
                    by_cases hjk : j < k
                    · exact h2 j hjk
                    · obtain rfl : j = k := by omega
                      refine ⟨fun c hc => ?_, fun _ hc hd => ?_⟩
                      · rw [List.getElem?_eq_getElem hk] at hc; cases hc; omega
                      · rw [List.getElem?_eq_getElem hk] at hc
                        rw [List.getElem?_eq_getElem hk1] at hd
                        exact hb ⟨Option.some.inj hc, Option.some.inj hd⟩
                  by_cases hc0 : l[k] = 0
                  · have hd0 : ¬ l[k - 1] = 0 := fun h => hb ⟨hc0, h⟩
                    simp [hk, h63, hw1, hk0, hk0', hk0'', hwk, hk1, hc0, hd0]
                    refine hK (k + 1) _ _ (by omega) ?_
                    simp [hnext]; omega
                  · simp [hk, h63, hw1, hk0, hk0', hk0'', hwk, hk1, hc0]
                    refine hK (k + 1) _ _ (by omega) ?_
                    simp [hnext]; omega
          · obtain rfl : k = l.length := by omega
            have : cl l = true := by
              rw [cl_iff]
              refine ⟨hne, fun c hc => ?_, ?_, fun j hj => ?_, ?_⟩
              · obtain ⟨j, hj, rfl⟩ := List.getElem_of_mem hc
                exact (h2 j hj).1 _ (List.getElem?_eq_getElem hj)
              · rw [List.head?_eq_getElem?, List.getElem?_eq_getElem hp]; simpa using hz
              · intro hj1
                have hjl : j + 1 < l.length := (List.getElem?_eq_some_iff.1 hj1).1
                exact (h2 (j + 1) hjl).2 (by omega) hj1 (by simpa using hj)
              · rw [List.getLast?_eq_getElem?, List.getElem?_eq_getElem hp1]; simpa using hy
            simp
            refine hX _ _ _ ?_
            simp
            refine hR _ _ ?_
            simp [X20, this]
end Go.Proofs.Ytfpkcjjgooigbaa.C
