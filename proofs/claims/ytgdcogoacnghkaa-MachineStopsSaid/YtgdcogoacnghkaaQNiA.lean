/-
  Chapter 26: plates copied, strikes performed.
-/
import Derived.Test.YtgdcogoacnghkaaQNhA
namespace Go.Proofs.Ytgdcogoacnghkaa.N
set_option linter.unusedSimpArgs false
set_option linter.unusedVariables false
set_option linter.unusedSectionVars false
open Go.Proofs.Ytgdcogoacnghkaa.Am
set_option maxHeartbeats 4000000
/-- rows of w dots -/
def Wid (w : Nat) (d : List (List Bool)) : Prop := ∀ r ∈ d, r.length = w
theorem wid_get {w : Nat} {d : List (List Bool)} (h : Wid w d) {k : Nat} (hk : k < d.length) : d[k].length = w := h _ (List.getElem_mem hk)
theorem wid_blank (w h : Nat) : Wid w (blankD w h) := fun r hr => by rw [List.eq_of_mem_replicate hr]; simp
theorem blank_len (w h : Nat) : (blankD w h).length = h := by simp [blankD]
theorem wid_set {w k : Nat} {d : List (List Bool)} {r : List Bool} (h : Wid w d) (hr : r.length = w) : Wid w (d.set k r) := fun x hx => by
  rcases List.mem_or_eq_of_mem_set hx with h1 | h1
  · exact h x h1
  · rw [h1]; exact hr
theorem nr_uw (d : List (List Bool)) : ∀ x, x ∈ d.map UW → noRefE x = true := fun x hx => by
  obtain ⟨r, _, rfl⟩ := List.mem_map.1 hx; rfl
/-- the first k rows, and j dots of the next, are those of d -/
structure Cpy (d : List (List Bool)) (w k j : Nat) (U : List (List Bool)) : Prop where
  len : U.length = d.length
  wid : Wid w U
  rows : ∀ i, i < k → U[i]? = d[i]?
  dots : ∀ x, x < j → (U[k]?.bind (·[x]?)) = (d[k]?.bind (·[x]?))
theorem Cpy.start (d : List (List Bool)) (w : Nat) : Cpy d w 0 0 (blankD w d.length) := ⟨blank_len _ _, wid_blank _ _, fun i hi => by omega, fun x hx => by omega⟩
theorem Cpy.step {d U : List (List Bool)} {w k j : Nat} (c : Cpy d w k j U) (hd : Wid w d) (hk : k < d.length) (hj : j < w) {hkU : k < U.length} {b : Bool} (hb : (d[k])[j]? = some b) : Cpy d w k (j + 1) (U.set k (U[k].set j b)) := by
  refine ⟨by simp [c.len], wid_set c.wid (by simp [wid_get c.wid hkU]), fun i hi => by rw [List.getElem?_set_ne (by omega)]; exact c.rows i hi, fun x hx => ?_⟩
  rw [List.getElem?_set_self hkU]
  simp only [Option.bind_some]
  by_cases hxj : x = j
  · subst hxj
    rw [List.getElem?_set_self (by rw [wid_get c.wid hkU]; exact hj), List.getElem?_eq_getElem hk, Option.bind_some, hb]
  · rw [List.getElem?_set_ne (Ne.symm hxj)]
    have := c.dots x (by omega)
    rw [List.getElem?_eq_getElem hkU] at this
    exact this
theorem Cpy.row {d U : List (List Bool)} {w k : Nat} (c : Cpy d w k w U) (hd : Wid w d) (hk : k < d.length) : Cpy d w (k + 1) 0 U := by
  refine ⟨c.len, c.wid, fun i hi => ?_, fun x hx => by omega⟩
  by_cases hik : i = k
  · subst hik
    have hkU : i < U.length := by rw [c.len]; exact hk
    rw [List.getElem?_eq_getElem hkU, List.getElem?_eq_getElem hk]
    congr 1
    refine List.ext_getElem? fun x => ?_
    by_cases hx : x < w
    · have := c.dots x hx
      rw [List.getElem?_eq_getElem hkU, List.getElem?_eq_getElem hk] at this
      exact this
    · rw [List.getElem?_eq_none (by rw [wid_get c.wid hkU]; omega), List.getElem?_eq_none (by rw [wid_get hd hk]; omega)]
  · exact c.rows i (by omega)
theorem Cpy.done {d U : List (List Bool)} {w : Nat} (c : Cpy d w d.length 0 U) : U = d := List.ext_getElem? fun i => by
  by_cases hi : i < d.length
  · exact c.rows i hi
  · rw [List.getElem?_eq_none (by rw [c.len]; omega), List.getElem?_eq_none (by omega)]
theorem Cpy.done' {d U : List (List Bool)} {w k : Nat} (c : Cpy d w k 0 U) (h : d.length = k) : U = d := by subst h; exact c.done
theorem uw_set {U : List (List Bool)} {k j : Nat} {r : List Bool} {b : Bool} : (U.map UW).set k (.uslc ((r.map .bool).set j (.bool b))) = (U.set k (r.set j b)).map UW := by rw [List.map_set, UW, List.map_set]

end Go.Proofs.Ytgdcogoacnghkaa.N
