/-
  Chapter 26: plates that are valid.
-/
import Derived.Test.YtgdcogoacnghkaaQNcA
namespace Go.Proofs.Ytgdcogoacnghkaa.N
set_option linter.unusedSimpArgs false
set_option linter.unusedVariables false
set_option linter.unusedSectionVars false
open Go.Proofs.Ytgdcogoacnghkaa.Am
set_option maxHeartbeats 2000000
theorem tdiv_ok {n : Int} (k : Nat) (hn : -9223372036854775808 ≤ n ∧ n ≤ 9223372036854775807) (hk : 2 ≤ k) : IntKind.i64.wrap (n.tdiv k) = n.tdiv k := by
  have h1 : (n.tdiv k).natAbs = n.natAbs / (k : Int).natAbs := Int.natAbs_tdiv n k
  rw [Int.natAbs_natCast] at h1
  have h2 : n.natAbs / k ≤ n.natAbs / 2 := Nat.div_le_div_left hk (by omega)
  rw [← h1] at h2
  exact wrap_ok (by omega) (by omega)
abbrev PC (w h : Int) (u d : List (List Bool)) : PV := .agg [I w, I h, DT u, DT d]
def filled (d : List (List Bool)) (w h : Int) : Bool := decide ((d.length : Int) = h) && d.all fun r => decide ((r.length : Int) = w)
def sizeB (w h : Int) : Bool := decide (w.tmod 2 = 0) && !decide (w.tdiv 2 < 24) && !decide (60 < w.tdiv 2) && decide (h.tmod 3 = 0) && !decide (h.tdiv 3 < 4) && !decide (40 < h.tdiv 3)
def validB (w h : Int) (u d : List (List Bool)) : Bool := sizeB w h && filled u w h && filled d w h
theorem filled_fn (d : List (List Bool)) (w h : Int) (hd : d.length ≤ 100000) : Am.Fn Try.prog 56 [0] [DT d, I w, I h] (.bool (filled d w h)) := by
  refine fn_introX mixed (X := X56) c56 0 (by simp [X56]) fun Q hR hN => ?_
  by_cases he : (d.length : Int) = h
  · subst he
    simp [X56]
    refine loopX (fun (k : Nat) vs h => k ≤ d.length ∧ (∀ r ∈ d.take k, (r.length : Int) = w) ∧ vs = [.undef, I w, .undef, .undef, .undef, .undef, DT d, I d.length, I k, .undef, .undef] ∧ h = []) (fun k => d.length - k) 0 ?_ ?_
    · simp
    · rintro k vs h ⟨h1, h2, rfl, rfl⟩ Q' hK hX hR'
      by_cases hk : k < d.length
      · have hw1 : IntKind.i64.wrap ((k : Int) + 1) = ((k + 1 : Nat) : Int) := wrap_ok (by omega) (by omega)
        by_cases t : (d[k].length : Int) = w
        · simp [hk, t, hw1]
          refine hK (k + 1) _ _ (by omega) ?_
          simp
          refine ⟨by omega, fun r hr => ?_⟩
          rw [take_snoc hk, List.mem_append, List.mem_singleton] at hr
          rcases hr with hr | rfl
          · exact h2 r hr
          · exact t
        · simp [hk, t]
          refine hR' _ _ ?_
          simp
          refine hR _ _ ?_
          simp [X56, filled]
          exact ⟨_, List.getElem_mem hk, t⟩
      · simp [hk]
        refine hX _ _ _ ?_
        simp
        refine hR _ _ ?_
        rw [List.take_of_length_le (by omega)] at h2
        simp [X56, filled]
        exact h2
  · simp [X56, he]
    refine hR _ _ ?_
    simp [X56, filled, he]
theorem rows_fn (d : List (List Bool)) (w h : Int) (hd : d.length ≤ 100000) : Am.Fn Try.prog 57 [0] [DT d, I w, I h] (.bool (filled d w h)) := by
  refine fn_introX mixed (X := X57) c57 0 (by simp [X57]) fun Q hR hN => ?_
  by_cases he : (d.length : Int) = h
  · subst he
    simp [X57]
    refine loopX (fun (k : Nat) vs h => k ≤ d.length ∧ (∀ r ∈ d.take k, (r.length : Int) = w) ∧ vs = [DT d, I w, I d.length, .undef, I k, .undef, .undef, .undef] ∧ h = []) (fun k => d.length - k) 0 ?_ ?_
    · simp
    · rintro k vs h ⟨h1, h2, rfl, rfl⟩ Q' hK hX hR'
      by_cases hk : k < d.length
      · have hw1 : IntKind.i64.wrap ((k : Int) + 1) = ((k + 1 : Nat) : Int) := wrap_ok (by omega) (by omega)
        by_cases t : (d[k].length : Int) = w
        · simp [hk, t, hw1]
          refine hK (k + 1) _ _ (by omega) ?_
          simp
          refine ⟨by omega, fun r hr => ?_⟩
          rw [take_snoc hk, List.mem_append, List.mem_singleton] at hr
          rcases hr with hr | rfl
          · exact h2 r hr
          · exact t
        · simp [hk, t]
          refine hR' _ _ ?_
          simp
          refine hR _ _ ?_
          simp [X57, filled]
          exact ⟨_, List.getElem_mem hk, t⟩
      · simp [hk]
        refine hX _ _ _ ?_
        simp
        refine hR _ _ ?_
        rw [List.take_of_length_le (by omega)] at h2
        simp [X57, filled]
        exact h2
  · simp [X57, he]
    refine hR _ _ ?_
    simp [X57, filled, he]
theorem Valid_fn (w h : Int) (u d : List (List Bool)) (hw : -9223372036854775808 ≤ w ∧ w ≤ 9223372036854775807) (hh : -9223372036854775808 ≤ h ∧ h ≤ 9223372036854775807) (hu : u.length ≤ 100000) (hd : d.length ≤ 100000) : Am.Fn Try.prog 43 [0] [PC w h u d] (.bool (validB w h u d)) := by
  have q1 : IntKind.i64.wrap (w.tdiv 2) = w.tdiv 2 := tdiv_ok 2 hw (by omega)
  have q2 : IntKind.i64.wrap (h.tdiv 3) = h.tdiv 3 := tdiv_ok 3 hh (by omega)
  refine fn_introX mixed (X := X43) c43 1 (by simp [X43]) fun Q hR hN => ?_
  by_cases t1 : w.tmod 2 = 0
  rotate_left
  · simp [X43, q1, q2, t1]
    refine hR _ _ ?_
    simp [X43, validB, sizeB, t1]
  by_cases t2 : w.tdiv 2 < 24
  · simp [X43, q1, q2, t1, t2]
    refine hR _ _ ?_
    simp [X43, validB, sizeB, t1, t2]
  by_cases t3 : 60 < w.tdiv 2
  · simp [X43, q1, q2, t1, t2, t3]
    refine hR _ _ ?_
    simp [X43, validB, sizeB, t1, t2, t3]
  by_cases t4 : h.tmod 3 = 0
  rotate_left
  · simp [X43, q1, q2, t1, t2, t3, t4]
    refine hR _ _ ?_
    simp [X43, validB, sizeB, t1, t2, t3, t4]
  by_cases t5 : h.tdiv 3 < 4
  · simp [X43, q1, q2, t1, t2, t3, t4, t5]
    refine hR _ _ ?_
    simp [X43, validB, sizeB, t1, t2, t3, t4, t5]
  by_cases t6 : 40 < h.tdiv 3
  · simp [X43, q1, q2, t1, t2, t3, t4, t5, t6]
    refine hR _ _ ?_
    simp [X43, validB, sizeB, t1, t2, t3, t4, t5, t6]
  have hs : sizeB w h = true := by simp [sizeB, t1, t2, t3, t4, t5, t6]
  simp [X43, q1, q2, t1, t2, t3, t4, t5, t6]
  refine call_of (filled_fn u w h hu) ?_
  by_cases t7 : filled u w h = true
  · simp [t7]
    refine call_of (filled_fn d w h hd) ?_
    simp
    refine hR _ _ ?_
    simp [X43, validB, hs, t7]
  · simp [t7]
    refine hR _ _ ?_
    simp [X43, validB, hs, t7]
theorem RValid_fn (w h : Int) (u d : List (List Bool)) (hw : -9223372036854775808 ≤ w ∧ w ≤ 9223372036854775807) (hh : -9223372036854775808 ≤ h ∧ h ≤ 9223372036854775807) (hu : u.length ≤ 100000) (hd : d.length ≤ 100000) : Am.Fn Try.prog 44 [0] [PC w h u d] (.bool (validB w h u d)) := by
  have q1 : IntKind.i64.wrap (w.tdiv 2) = w.tdiv 2 := tdiv_ok 2 hw (by omega)
  have q2 : IntKind.i64.wrap (h.tdiv 3) = h.tdiv 3 := tdiv_ok 3 hh (by omega)
  refine fn_introX mixed (X := X44) c44 1 (by simp [X44]) fun Q hR hN => ?_
  by_cases t1 : w.tmod 2 = 0
  rotate_left
  · simp [X44, q1, q2, t1]
    refine hR _ _ ?_
    simp [X44, validB, sizeB, t1]
  by_cases t2 : w.tdiv 2 < 24
  · simp [X44, q1, q2, t1, t2]
    refine hR _ _ ?_
    simp [X44, validB, sizeB, t1, t2]
  by_cases t3 : 60 < w.tdiv 2
  · simp [X44, q1, q2, t1, t2, t3]
    refine hR _ _ ?_
    simp [X44, validB, sizeB, t1, t2, t3]
  by_cases t4 : h.tmod 3 = 0
  rotate_left
  · simp [X44, q1, q2, t1, t2, t3, t4]
    refine hR _ _ ?_
    simp [X44, validB, sizeB, t1, t2, t3, t4]
  by_cases t5 : h.tdiv 3 < 4
  · simp [X44, q1, q2, t1, t2, t3, t4, t5]
    refine hR _ _ ?_
    simp [X44, validB, sizeB, t1, t2, t3, t4, t5]
  by_cases t6 : 40 < h.tdiv 3
  · simp [X44, q1, q2, t1, t2, t3, t4, t5, t6]
    refine hR _ _ ?_
    simp [X44, validB, sizeB, t1, t2, t3, t4, t5, t6]
  have hs : sizeB w h = true := by simp [sizeB, t1, t2, t3, t4, t5, t6]
  simp [X44, q1, q2, t1, t2, t3, t4, t5, t6]
  refine call_of (rows_fn u w h hu) ?_
  by_cases t7 : filled u w h = true
  · simp [t7]
    refine call_of (rows_fn d w h hd) ?_
    simp
    refine hR _ _ ?_
    simp [X44, validB, hs, t7]
  · simp [t7]
    refine hR _ _ ?_
    simp [X44, validB, hs, t7]
end Go.Proofs.Ytgdcogoacnghkaa.N
