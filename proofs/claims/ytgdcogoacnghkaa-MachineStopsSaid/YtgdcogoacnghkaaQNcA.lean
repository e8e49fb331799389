/-
  Chapter 26: the raised dots of rows, strikes.
-/
import Derived.Test.YtgdcogoacnghkaaQNbX
import Derived.Test.YtgdcogoacnghkaaQNaP
namespace Go.Proofs.Ytgdcogoacnghkaa.N
set_option linter.unusedSimpArgs false
set_option linter.unusedVariables false
set_option linter.unusedSectionVars false
open Go.Proofs.Ytgdcogoacnghkaa.Am
set_option maxHeartbeats 2000000
theorem wrap_ok {n : Int} (h1 : -9223372036854775808 ≤ n) (h2 : n ≤ 9223372036854775807) : IntKind.i64.wrap n = n := by
  simp [IntKind.wrap, IntKind.signed, IntKind.bits]
  omega
abbrev I (n : Int) : PV := .int .i64 n
abbrev RW (r : List Bool) : PV := .slc (r.map .bool)
abbrev DT (d : List (List Bool)) : PV := .slc (d.map RW)
abbrev IL (l : List Int) : PV := .slc (l.map I)
abbrev dd : Row := (0, .dead)
/-- an equation that simp leaves alone -/
structure Is {α : Type} (a b : α) : Prop where
  e : a = b
theorem columns_fn (w : Nat) (ds : List (List Bool)) (hw : w ≤ 1000) (hd : ds.length ≤ 10) (hr : ∀ r ∈ ds, r.length ≤ 1000) : Am.Fn Try.prog 48 [1] [I w, DT ds] (.uslc ((sidesG w 0 ds).map I)) := by
  refine fn_introX mixed (X := X48) c48 3 (by simp [X48]) fun Q hR hN => ?_
  simp [X48]
  refine loopX (fun (k : Nat) vs h => k ≤ ds.length ∧ ∃ l : List Int, Is l (sidesG w 0 (ds.take k)) ∧ l.length ≤ k * 1000 ∧ vs = [I w, .undef, .undef, .own 2 1 l.length 1 0 l.length, .undef, .undef, .undef, .undef, DT ds, I ds.length, I k, .undef, .undef, .undef, .undef, .undef, .undef] ∧ h = [dd, dd, (1, .arr 1 0 false (l.map I))]) (fun k => ds.length - k) 0 ?_ ?_
  · simp
    exact ⟨[], ⟨rfl⟩, rfl, rfl, rfl⟩
  · rintro k vs h ⟨h1, l, ⟨h2⟩, h3, rfl, rfl⟩ Q' hK hX hR'
    by_cases hk : k < ds.length
    · have hw1 : IntKind.i64.wrap ((k : Int) + 1) = ((k + 1 : Nat) : Int) := wrap_ok (by omega) (by omega)
      have hrk := hr _ (List.getElem_mem hk)
      have hkw : k * w ≤ 10 * 1000 := Nat.mul_le_mul (by omega) hw
      have hkw' : (k : Int) * w ≤ 10000 := by
        have : ((k * w : Nat) : Int) ≤ 10000 := by omega
        rwa [Int.natCast_mul] at this
      have hkw0 : 0 ≤ (k : Int) * w := Int.mul_nonneg (by omega) (by omega)
      have hw2 : IntKind.i64.wrap ((k : Int) * w) = (k : Int) * w := wrap_ok (by omega) (by omega)
      simp [hk]
      refine loopX (fun (j : Nat) vs h => j ≤ ds[k].length ∧ ∃ m : List Int, Is m (l ++ posG (k * w) 0 (ds[k].take j)) ∧ m.length ≤ k * 1000 + j ∧ vs = [I w, .undef, .undef, .own 2 1 m.length 1 0 m.length, I k, .undef, .undef, .undef, DT ds, I ds.length, I k, .undef, RW ds[k], I ds[k].length, I j, .undef, .undef] ∧ h = [dd, dd, (1, .arr 1 0 false (m.map I))]) (fun j => ds[k].length - j) 0 ?_ ?_
      · simp
        exact ⟨l, ⟨by simp [posG]⟩, by omega, rfl, rfl⟩
      · rintro j vs h ⟨g1, m, ⟨g2⟩, g3, rfl, rfl⟩ Q2 hK2 hX2 hR2
        by_cases hj : j < ds[k].length
        · have hw3 : IntKind.i64.wrap ((j : Int) + 1) = ((j + 1 : Nat) : Int) := wrap_ok (by omega) (by omega)
          have hw4 : IntKind.i64.wrap ((k : Int) * w + j) = (k : Int) * w + j := wrap_ok (by omega) (by omega)
          have hcap : (m.length + 1) * 8 ≤ 140737488355328 := by omega
          by_cases hb : ds[k][j] = true
          · simp [hj, hb, hw3, hw2, hw4, hcap]
            refine hK2 (j + 1) _ _ (by omega) ?_
            simp
            refine ⟨by omega, m ++ [((k * w + j : Nat) : Int)], ⟨by rw [g2, posG_snoc hj, hb]; simp⟩, by simp; omega, by simp, by simp⟩
          · simp [hj, hb, hw3]
            refine hK2 (j + 1) _ _ (by omega) ?_
            simp
            refine ⟨by omega, m, ⟨by rw [g2, posG_snoc hj]; simp [hb]⟩, by omega, by simp, by simp⟩
        · simp [hj]
          refine hX2 _ _ _ ?_
          simp [hw1]
          refine hK (k + 1) _ _ (by omega) ?_
          simp
          refine ⟨by omega, m, ⟨?_⟩, by omega, by simp, by simp⟩
          rw [g2, sidesG_snoc hk, ← h2, List.take_of_length_le (l := ds[k]) (by omega)]
    · simp [hk]
      refine hX _ _ _ ?_
      rw [List.take_of_length_le (by omega)] at h2
      subst h2
      simp
      refine hR _ _ ?_
      simp [X48]
abbrev stC (s : Stk) : PV := .agg [I s.row, IL s.up, IL s.down]
abbrev stU (s : Stk) : PV := .agg [I s.row, .uslc (s.up.map I), .uslc (s.down.map I)]
theorem take_snoc {α : Type} {l : List α} {k : Nat} (h : k < l.length) : l.take (k + 1) = l.take k ++ [l[k]] := List.take_succ_eq_append_getElem h
theorem struck_fn (y : Int) (w : Nat) (l : List Int) (hw : w ≤ 1000) (hl : l.length ≤ 100000) (hb : ∀ i ∈ l, 0 ≤ i ∧ i ≤ 100000) : Am.Fn Try.prog 49 [0, 1, 1] [I y, I w, IL l] (stU (struck y w l)) := by
  refine fn_introX mixed (X := X49) c49 10 (by simp [X49]) fun Q hR hN => ?_
  simp [X49]
  refine loopX (fun (p : Nat × List Int × List Int) vs h => p.1 ≤ l.length ∧ p.2.1 = (l.take p.1).filter (· < (w : Int)) ∧ p.2.2 = ((l.take p.1).filter (fun n => decide ((w : Int) ≤ n))).map (· - (w : Int)) ∧ p.2.1.length ≤ p.1 ∧ p.2.2.length ≤ p.1 ∧
    vs = [.undef, I w, .undef, .ptr 6 1 0, .ptr 7 1 0, .undef, IL l, I l.length, I p.1, .undef, .undef] ∧
    h = [dd, dd, dd, dd, dd, dd, (1, .var [I 0, .nils, .nils]), (1, .var [I y, .own 8 1 p.2.1.length 1 0 p.2.1.length, .own 9 1 p.2.2.length 1 0 p.2.2.length]), (1, .arr 1 0 false (p.2.1.map I)), (1, .arr 1 0 false (p.2.2.map I))]) (fun p => l.length - p.1) (0, [], []) ?_ ?_
  · simp
  · rintro ⟨k, u, d⟩ vs h ⟨h1, h2, h3, h4, h5, rfl, rfl⟩ Q' hK hX hR'
    dsimp only at h1 h2 h3 h4 h5
    by_cases hk : k < l.length
    · have hw1 : IntKind.i64.wrap ((k : Int) + 1) = ((k + 1 : Nat) : Int) := wrap_ok (by omega) (by omega)
      have hbk := hb _ (List.getElem_mem hk)
      have hw2 : IntKind.i64.wrap (l[k] - (w : Int)) = l[k] - w := wrap_ok (by omega) (by omega)
      have hc1 : (u.length + 1) * 8 ≤ 140737488355328 := by omega
      have hc2 : (d.length + 1) * 8 ≤ 140737488355328 := by omega
      by_cases t : l[k] < (w : Int)
      · have t' : ¬ (w : Int) ≤ l[k] := by omega
        simp [hk, t, hw1, hc1]
        refine hK (k + 1, u ++ [l[k]], d) _ _ (by dsimp only; omega) ?_
        simp
        exact ⟨by omega, by rw [take_snoc hk, List.filter_append, ← h2]; simp [t], by rw [take_snoc hk, List.filter_append, List.map_append, ← h3]; simp [t'], by omega, by omega⟩
      · have t' : (w : Int) ≤ l[k] := by omega
        simp [hk, t, hw1, hc2, hw2]
        refine hK (k + 1, u, d ++ [l[k] - (w : Int)]) _ _ (by dsimp only; omega) ?_
        simp
        exact ⟨by omega, by rw [take_snoc hk, List.filter_append, ← h2]; simp [t], by rw [take_snoc hk, List.filter_append, List.map_append, ← h3]; simp [t'], by omega, by omega⟩
    · rw [List.take_of_length_le (by omega)] at h2 h3
      simp [hk]
      refine hX _ _ _ ?_
      simp
      refine hR _ _ ?_
      simp [X49, struck, h2, h3]
end Go.Proofs.Ytgdcogoacnghkaa.N
