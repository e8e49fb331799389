/-
  Chapter 26: dots counted.
-/
import Derived.Test.YtgdcogoacnghkaaQNmA
namespace Go.Proofs.Ytgdcogoacnghkaa.N
set_option linter.unusedSimpArgs false
set_option linter.unusedVariables false
set_option linter.unusedSectionVars false
open Go.Proofs.Ytgdcogoacnghkaa.Am
set_option maxHeartbeats 4000000
theorem RPlan_arg (w h n : Int) (u d : List (List Bool)) (hn : n < 1 ∨ 64 < n) : Am.Fn Try.prog 24 [3, 0] [PC w h u d, I n] (.tup [.nils, I 1]) := by
  refine fn_introX mixed (X := X24) c24 16 (by simp [X24]) fun Q hR hN => ?_
  by_cases n1 : n < 1
  · simp [X24, n1]
    refine hR _ _ ?_
    simp [X24]
  · have n2 : 64 < n := by omega
    simp [X24, n1, n2]
    refine hR _ _ ?_
    simp [X24]
theorem RPlan_plate (w h n : Int) (u d : List (List Bool)) (hw : -9223372036854775808 ≤ w ∧ w ≤ 9223372036854775807) (hh : -9223372036854775808 ≤ h ∧ h ≤ 9223372036854775807) (hu : u.length ≤ 100000) (hd : d.length ≤ 100000) (hn : ¬ n < 1) (hn2 : ¬ 64 < n) (hv : validB w h u d = false) : Am.Fn Try.prog 24 [3, 0] [PC w h u d, I n] (.tup [.nils, I 250]) := by
  have hV := RValid_fn w h u d hw hh hu hd
  rw [hv] at hV
  refine fn_introX mixed (X := X24) c24 16 (by simp [X24]) fun Q hR hN => ?_
  simp [X24, hn, hn2]
  refine call_of hV ?_
  simp
  refine hR _ _ ?_
  simp [X24]
/-- how many dots -/
def cnt (r : List Bool) : Nat := r.count true
def cntD (d : List (List Bool)) : Nat := (d.map cnt).sum
theorem cnt_snoc {r : List Bool} {k : Nat} (h : k < r.length) : cnt (r.take (k + 1)) = cnt (r.take k) + if r[k] then 1 else 0 := by
  rw [take_snoc h, cnt, List.count_append]; cases r[k] <;> rfl
theorem cntD_snoc {d : List (List Bool)} {k : Nat} (h : k < d.length) : cntD (d.take (k + 1)) = cntD (d.take k) + cnt d[k] := by
  rw [take_snoc h, cntD, List.map_append, List.sum_append]; simp [cntD]
theorem cnt_le (r : List Bool) : cnt r ≤ r.length := List.count_le_length
theorem cntD_le {d : List (List Bool)} {m : Nat} (h : ∀ r ∈ d, r.length ≤ m) : cntD d ≤ d.length * m := by
  induction d with
  | nil => simp [cntD]
  | cons r d ih =>
    have h1 := cnt_le r
    have h2 := h r List.mem_cons_self
    have h3 := ih fun x hx => h x (List.mem_cons_of_mem _ hx)
    simp only [cntD, List.map_cons, List.sum_cons, List.length_cons] at h3 ⊢
    rw [Nat.succ_mul]; omega
def cntS (S : List (List (List Bool))) : Nat := (S.map cntD).sum
theorem cntS_snoc {d : List (List (List Bool))} {k : Nat} (h : k < d.length) : cntS (d.take (k + 1)) = cntS (d.take k) + cntD d[k] := by
  rw [take_snoc h, cntS, List.map_append, List.sum_append]; simp [cntS]

end Go.Proofs.Ytgdcogoacnghkaa.N
