/-
  Chapter 26: strikes that are possible, dots raised, dots counted.
-/
import Derived.Test.YtgdcogoacnghkaaQNgA
namespace Go.Proofs.Ytgdcogoacnghkaa.N
set_option linter.unusedSimpArgs false
set_option linter.unusedVariables false
set_option linter.unusedSectionVars false
open Go.Proofs.Ytgdcogoacnghkaa.Am
set_option maxHeartbeats 2000000
/-- rising numbers below w -/
def risG (w : Int) : Int → List Int → Bool
  | _, [] => true
  | last, x :: r => decide (last < x) && decide (x < w) && risG w x r
def ris (w : Int) (l : List Int) : Bool := risG w (-1) l
theorem rising_fn (w : Int) (l : List Int) (hl : l.length ≤ 100000) : Am.Fn Try.prog 51 [0] [IL l, I w] (.bool (ris w l)) := by
  refine fn_introX mixed (X := X51) c51 0 (by simp [X51]) fun Q hR hN => ?_
  simp [X51]
  refine loopX (fun (p : Nat × Int) vs h => p.1 ≤ l.length ∧ ris w l = risG w p.2 (l.drop p.1) ∧ vs = [.undef, I w, .undef, I p.2, .undef, IL l, I l.length, I p.1, .undef, .undef] ∧ h = []) (fun p => l.length - p.1) (0, -1) ?_ ?_
  · simp [ris]
  · rintro ⟨k, last⟩ vs h ⟨h1, h2, rfl, rfl⟩ Q' hK hX hR'
    dsimp only at h1 h2
    by_cases hk : k < l.length
    · have hw1 : IntKind.i64.wrap ((k : Int) + 1) = ((k + 1 : Nat) : Int) := wrap_ok (by omega) (by omega)
      rw [List.drop_eq_getElem_cons hk, risG] at h2
      by_cases t1 : l[k] ≤ last
      · have t1' : ¬ last < l[k] := by omega
        simp [hk, t1]
        refine hR' _ _ ?_
        simp
        refine hR _ _ ?_
        simp [X51, h2, t1']
      · have t1' : last < l[k] := by omega
        by_cases t2 : w ≤ l[k]
        · have t2' : ¬ l[k] < w := by omega
          simp [hk, t1, t2]
          refine hR' _ _ ?_
          simp
          refine hR _ _ ?_
          simp [X51, h2, t2']
        · have t2' : l[k] < w := by omega
          simp [hk, t1, t2, hw1]
          refine hK (k + 1, l[k]) _ _ (by dsimp only; omega) ?_
          simp
          exact ⟨by omega, by rw [h2]; simp [t1', t2']⟩
    · rw [List.drop_eq_nil_of_le (by omega), risG] at h2
      simp [hk]
      refine hX _ _ _ ?_
      simp
      refine hR _ _ ?_
      simp [X51, h2]
/-- is a strike possible? -/
def poss (w h : Int) (s : Stk) : Bool := decide (0 ≤ s.row) && decide (s.row < h) && ris w s.up && ris w s.down
/-- a row with dots raised -/
def raiseR (r : List Bool) (l : List Int) : List Bool := l.foldl (fun r x => r.set x.toNat true) r
theorem raiseR_len (r : List Bool) (l : List Int) : (raiseR r l).length = r.length := by
  unfold raiseR
  induction l generalizing r with
  | nil => rfl
  | cons x l ih => rw [List.foldl_cons, ih]; simp
theorem raiseR_snoc {r : List Bool} {l : List Int} {k : Nat} (h : k < l.length) : raiseR r (l.take (k + 1)) = (raiseR r (l.take k)).set l[k].toNat true := by
  rw [take_snoc h, raiseR, List.foldl_append]; rfl
theorem raised_fn (r : List Bool) (l : List Int) (hr : r.length ≤ 1000) (hl : l.length ≤ 100000) (hb : ∀ x ∈ l, 0 ≤ x ∧ x < r.length) : Am.Fn Try.prog 52 [1] [RW r, IL l] (UW (raiseR r l)) := by
  have a1 : r.length ≤ 140737488355328 := by omega
  have a2 : (r.length : Int) ≤ 140737488355328 := by omega
  have a3 : (r.length : Int) ≤ 9223372036854775807 := by omega
  refine fn_introX mixed (X := X52) c52 2 (by simp [X52]) fun Q hR hN => ?_
  by_cases hr0 : r = []
  · subst hr0
    have hl0 : l = [] := by
      cases l with
      | nil => rfl
      | cons x l => have := hb x List.mem_cons_self; simp at this; omega
    subst hl0
    simp [X52]
    refine loopX (fun (k : Nat) vs h => k = 0 ∧ vs = [.undef, .undef, .undef, .own 1 1 0 1 0 0, .undef, .slc [], I 0, I 0, .undef] ∧ h = [dd, (1, .arr 1 0 false [])]) (fun k => 0) 0 ?_ ?_
    · simp
    · rintro k vs h ⟨rfl, rfl, rfl⟩ Q' hK hX hR'
      simp
      refine hX _ _ _ ?_
      simp
      refine hR _ _ ?_
      simp [X52, raiseR]
  have hT : List.take r.length (List.map PV.bool r) = List.map PV.bool r := List.take_of_length_le (by simp)
  simp [X52, a1, a2, a3, hr0]
  refine loopX (fun (p : Nat × List Bool) vs h => p.1 ≤ l.length ∧ p.2 = raiseR r (l.take p.1) ∧ p.2.length = r.length ∧ vs = [.undef, .undef, .undef, .own 1 1 r.length 1 0 r.length, .undef, IL l, I l.length, I p.1, .undef] ∧ h = [dd, (1, .arr 1 0 false (p.2.map .bool))]) (fun p => l.length - p.1) (0, r) ?_ ?_
  · simp [raiseR, hT]
  · rintro ⟨k, q⟩ vs h ⟨h1, h2, h3, rfl, rfl⟩ Q' hK hX hR'
    dsimp only at h1 h2 h3
    by_cases hk : k < l.length
    · have hw1 : IntKind.i64.wrap ((k : Int) + 1) = ((k + 1 : Nat) : Int) := wrap_ok (by omega) (by omega)
      have hbk := hb _ (List.getElem_mem hk)
      obtain ⟨j, hj⟩ : ∃ j : Nat, l[k] = j := ⟨l[k].toNat, by omega⟩
      have hj2 : j < r.length := by omega
      have hs := raiseR_snoc (r := r) hk
      rw [← h2, hj] at hs
      simp [hk, hj, hj2, h3, hw1]
      refine hK (k + 1, q.set j true) _ _ (by dsimp only; omega) ?_
      simp [h3]
      refine ⟨by omega, hs.symm, fun x hx => ?_⟩
      rw [show (List.map PV.bool q).set j (PV.bool true) = List.map PV.bool (q.set j true) by rw [List.map_set]] at hx
      exact allB (p := fun x => noRefE x = true) _ (fun _ => rfl) x hx
    · rw [List.take_of_length_le (by omega)] at h2
      simp [hk]
      refine hX _ _ _ ?_
      simp
      refine hR _ _ ?_
      simp [X52, h2, raiseR_len]
end Go.Proofs.Ytgdcogoacnghkaa.N
