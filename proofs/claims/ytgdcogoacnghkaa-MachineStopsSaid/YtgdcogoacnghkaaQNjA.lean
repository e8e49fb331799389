/-
  Chapter 26: a plate with the dots of a strike raised.
-/
import Derived.Test.YtgdcogoacnghkaaQNiA
namespace Go.Proofs.Ytgdcogoacnghkaa.N
set_option linter.unusedSimpArgs false
set_option linter.unusedVariables false
set_option linter.unusedSectionVars false
open Go.Proofs.Ytgdcogoacnghkaa.Am
set_option maxHeartbeats 4000000
/-- the dots l raised in row k -/
def modR (d : List (List Bool)) (k : Nat) (l : List Int) : List (List Bool) := d.modify k fun r => raiseR r l
theorem modR_len (d : List (List Bool)) (k : Nat) (l : List Int) : (modR d k l).length = d.length := by simp [modR]
theorem modR_wid {w k : Nat} {d : List (List Bool)} {l : List Int} (h : Wid w d) : Wid w (modR d k l) := by
  intro r hr
  obtain ⟨i, hi, rfl⟩ := List.mem_iff_getElem.1 hr
  have hi' : i < d.length := by rw [modR_len] at hi; exact hi
  simp only [modR, List.getElem_modify]
  split
  · rw [raiseR_len]; exact wid_get h hi'
  · exact wid_get h hi'
theorem modR_nil {d : List (List Bool)} {k : Nat} : modR d k [] = d := by
  refine List.ext_getElem? fun i => ?_
  unfold modR
  rw [List.getElem?_modify]
  split <;> cases d[i]? <;> rfl
theorem modR_snoc {d : List (List Bool)} {k i x : Nat} {l : List Int} (hi : i < l.length) (hk : k < (modR d k (l.take i)).length) (hx : l[i] = (x : Int)) : (modR d k (l.take i)).set k ((modR d k (l.take i))[k].set x true) = modR d k (l.take (i + 1)) := by
  have hk' : k < d.length := by rw [modR_len] at hk; exact hk
  refine List.ext_getElem (by simp [modR_len]) fun j h1 h2 => ?_
  rw [List.getElem_set]
  split
  · rename_i e
    subst e
    simp only [modR, List.getElem_modify, if_pos]
    rw [raiseR_snoc hi, hx]; rfl
  · rename_i e
    simp only [modR, List.getElem_modify, if_neg e]
theorem modR_set {d : List (List Bool)} {k : Nat} {l : List Int} (hk : k < d.length) : d.set k (raiseR d[k] l) = modR d k l := by
  refine List.ext_getElem (by simp [modR_len]) fun j h1 h2 => ?_
  rw [List.getElem_set]
  split
  · rename_i e; subst e; simp [modR, List.getElem_modify]
  · rename_i e; simp [modR, List.getElem_modify, e]
theorem risG_mem {w : Int} {l : List Int} {last : Int} (h : risG w last l = true) : ∀ x ∈ l, last < x ∧ x < w := by
  induction l generalizing last with
  | nil => intro x hx; cases hx
  | cons y l ih =>
    simp [risG] at h
    obtain ⟨⟨h1, h2⟩, h3⟩ := h
    intro x hx
    rcases List.mem_cons.1 hx with rfl | hx
    · exact ⟨h1, h2⟩
    · have := ih h3 x hx; omega
theorem ris_mem {w : Int} {l : List Int} (h : ris w l = true) : ∀ x ∈ l, 0 ≤ x ∧ x < w := fun x hx => by
  have := risG_mem h x hx; omega

end Go.Proofs.Ytgdcogoacnghkaa.N
