/-
  Chapter 26: rows of dots made, numbers of dots, strikes that are possible.
-/
import Derived.Test.YtgdcogoacnghkaaQNfA
namespace Go.Proofs.Ytgdcogoacnghkaa.N
set_option linter.unusedSimpArgs false
set_option linter.unusedVariables false
set_option linter.unusedSectionVars false
open Go.Proofs.Ytgdcogoacnghkaa.Am
set_option maxHeartbeats 2000000
abbrev UW (r : List Bool) : PV := .uslc (r.map .bool)
abbrev UR (d : List (List Bool)) : PV := .uslc (d.map UW)
abbrev PU (w h : Int) (u d : List (List Bool)) : PV := .agg [I w, I h, UR u, UR d]
def blankD (w h : Nat) : List (List Bool) := List.replicate h (List.replicate w false)
/-- rows, the first k of them made -/
def blk (w h k : Nat) : List PV := List.replicate k (UW (List.replicate w false)) ++ List.replicate (h - k) (.slc [])
theorem blk_len {w h k : Nat} (hk : k ≤ h) : (blk w h k).length = h := by simp [blk]; omega
theorem blk_get {w h k : Nat} (hk : k < h) : (blk w h k)[k]? = some (.slc []) := by
  unfold blk
  rw [List.getElem?_append_right (by simp), List.length_replicate, Nat.sub_self, List.getElem?_replicate, if_pos (by omega)]
theorem blk_set {w h k : Nat} (hk : k < h) : (blk w h k).set k (UW (List.replicate w false)) = blk w h (k + 1) := by
  unfold blk
  rw [List.set_append_right _ _ (by simp), List.length_replicate, Nat.sub_self, show h - k = (h - (k + 1)) + 1 by omega, List.replicate_succ, List.set_cons_zero, List.replicate_succ']
  simp
theorem blk_nr {w h k : Nat} : ∀ x, x ∈ blk w h k → noRefE x = true := fun x hx => by
  rcases List.mem_append.1 hx with h | h
  · rw [List.eq_of_mem_replicate h]; rfl
  · rw [List.eq_of_mem_replicate h]; rfl
theorem blank_fn (w h : Nat) (hw : w ≤ 1000) (hh : h ≤ 1000) : Am.Fn Try.prog 50 [1] [I w, I h] (UR (blankD w h)) := by
  refine fn_introX mixed (X := X50) c50 3 (by simp [X50]) fun Q hR hN => ?_
  have a1 : h * 24 ≤ 140737488355328 := by omega
  have a2 : w ≤ 140737488355328 := by omega
  have a3 : (h : Int) ≤ 9223372036854775807 := by omega
  have a4 : (w : Int) ≤ 9223372036854775807 := by omega
  have a5 : (h : Int) * 24 ≤ 140737488355328 := by omega
  have a6 : (w : Int) ≤ 140737488355328 := by omega
  simp [X50, a1, a3, a5]
  refine loopX (fun (k : Nat) vs h' => k ≤ h ∧ vs = [I w, .undef, .undef, .own 2 1 h 1 0 h, .undef, I h, I k, .undef] ∧ h' = [dd, dd, (1, .arr 1 0 false (blk w h k))]) (fun k => h - k) 0 ?_ ?_
  · simp [blk]
  · rintro k vs h' ⟨h1, rfl, rfl⟩ Q' hK hX hR'
    have hw1 : IntKind.i64.wrap ((k : Int) + 1) = ((k + 1 : Nat) : Int) := wrap_ok (by omega) (by omega)
    have b1 := blk_len (w := w) h1
    have b2 := blk_nr (w := w) (h := h) (k := k)
    by_cases hk : k < h
    · have hkb : k < (blk w h k).length := by omega
      have b3 : (blk w h k)[k] = .slc [] := by
        have := blk_get (w := w) hk
        rw [List.getElem?_eq_getElem hkb] at this; exact Option.some.inj this
      have b4 := blk_set (w := w) hk
      have b5 := blk_nr (w := w) (h := h) (k := k + 1)
      have b6 := blk_len (w := w) (h := h) (k := k + 1) (by omega)
      simp only [UW, List.map_replicate] at b4
      simp [hk, a2, a4, a6, hw1, b1, b3, b4]
      refine hK (k + 1) _ _ (by omega) ?_
      simp [b6]
      exact ⟨by omega, b5⟩
    · obtain rfl : k = h := by omega
      simp
      refine hX _ _ _ ?_
      simp
      refine hR _ _ ?_
      simp [X50, b1, blk, blankD]

end Go.Proofs.Ytgdcogoacnghkaa.N
