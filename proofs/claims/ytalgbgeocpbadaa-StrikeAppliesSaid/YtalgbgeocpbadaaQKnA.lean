/-
  Chapter 26: dots counted.
-/
import Derived.Test.YtalgbgeocpbadaaQKmA
namespace Go.Proofs.Ytalgbgeocpbadaa.K
set_option linter.unusedSimpArgs false
set_option linter.unusedVariables false
set_option linter.unusedSectionVars false
open Go.Proofs.Ytalgbgeocpbadaa.Am
set_option maxHeartbeats 4000000
theorem RPlan_arg (w h n : Int) (u d : List (List Bool)) (hn : n < 1 ∨ 64 < n) : Am.Fn Try.prog 11 [3, 0] [PC w h u d, I n] (.tup [.nils, I 1]) := by
  refine fn_introX mixed (X := X11) c11 16 (by simp [X11]) fun Q hR hN => ?_
  by_cases n1 : n < 1
  · simp [X11, n1]
    refine hR _ _ ?_
    simp [X11]
  · have n2 : 64 < n := by omega
    simp [X11, n1, n2]
    refine hR _ _ ?_
    simp [X11]
theorem RPlan_plate (w h n : Int) (u d : List (List Bool)) (hw : -9223372036854775808 ≤ w ∧ w ≤ 9223372036854775807) (hh : -9223372036854775808 ≤ h ∧ h ≤ 9223372036854775807) (hu : u.length ≤ 100000) (hd : d.length ≤ 100000) (hn : ¬ n < 1) (hn2 : ¬ 64 < n) (hv : validB w h u d = false) : Am.Fn Try.prog 11 [3, 0] [PC w h u d, I n] (.tup [.nils, I 250]) := by
  have hV := RValid_fn w h u d hw hh hu hd
  rw [hv] at hV
  refine fn_introX mixed (X := X11) c11 16 (by simp [X11]) fun Q hR hN => ?_
  simp [X11, hn, hn2]
  refine call_of hV ?_
  simp
  refine hR _ _ ?_
  simp [X11]
/-- how many dots -/
def cnt (r : List Bool) : Nat := r.count true
def cntD (d : List (List Bool)) : Nat := (d.map cnt).sum
theorem cnt_snoc {r : List Bool} {k : Nat} (h : k < r.length) : cnt (r.take (k + 1)) = cnt (r.take k) + if r[k] then 1 else 0 := by
  rw [take_snoc h, cnt, List.count_append]; cases r[k] <;> rfl
theorem cntD_snoc {d : List (List Bool)} {k : Nat} (h : k < d.length) : cntD (d.take (k + 1)) = cntD (d.take k) + cnt d[k] := by
  rw [take_snoc h, cntD, List.map_append, List.sum_append]; simp [cntD]
theorem cnt_le (r : List Bool) : cnt r ≤ r.length := List.count_le_length
theorem cntD_le {d : List (List Bool)} {m : Nat} (h : ∀ r ∈ d, r.length ≤ m) : cntD d ≤ d.length * m := by
  induction d with
  | nil => simp [cntD]
  | cons r d ih =>
    have h1 := cnt_le r
    have h2 := h r List.mem_cons_self
    have h3 := ih fun x hx => h x (List.mem_cons_of_mem _ hx)
    simp only [cntD, List.map_cons, List.sum_cons, List.length_cons] at h3 ⊢
    rw [Nat.succ_mul]; omega
theorem RDots_fn (w h : Nat) (u d : List (List Bool)) (hw : w ≤ 1000) (hh : h ≤ 1000) (hu : u.length = h) (hd : d.length = h) (wu : Wid w u) (wd : Wid w d) : Am.Fn Try.prog 14 [0] [PC w h u d] (I ((cntD u + cntD d : Nat) : Int)) := by
  refine fn_introX mixed (X := X14) c14 2 (by simp [X14]) fun Q hR hN => ?_
  simp [X14]
  refine loopX (fun (p : Nat × Nat) vs h' => p.1 ≤ h ∧ p.2 = cntD (u.take p.1) + cntD (d.take p.1) ∧ p.2 ≤ p.1 * 2000 ∧ vs = [.undef, .ptr 1 1 0, .undef, I p.2, I p.1, .undef, .undef, .undef, .undef, .undef] ∧
    h' = [dd, (1, .var [I w, I h, DT u, DT d])]) (fun p => h - p.1) (0, 0) ?_ ?_
  · simp [cntD]
  · rintro ⟨y, c⟩ vs h' ⟨h1, h2, h3, rfl, rfl⟩ Q' hK hX hR'
    dsimp only at h1 h2 h3
    by_cases hy : y < h
    · have hyu : y < u.length := by omega
      have hyd : y < d.length := by omega
      have lu := wid_get wu hyu
      have ld := wid_get wd hyd
      simp [hy]
      refine loopX (fun (p : Nat × Nat) vs h' => p.1 ≤ w ∧ p.2 = c + (cnt (u[y].take p.1) + cnt (d[y].take p.1)) ∧ p.2 ≤ c + 2 * p.1 ∧ vs = [.undef, .ptr 1 1 0, .undef, I p.2, I y, I p.1, .undef, .undef, .undef, .undef] ∧
        h' = [dd, (1, .var [I w, I h, DT u, DT d])]) (fun p => w - p.1) (0, c) ?_ ?_
      · simp [cnt]
      · rintro ⟨x, e⟩ vs h' ⟨g1, g2, g3, rfl, rfl⟩ Q2 hK2 hX2 hR2
        dsimp only at g1 g2 g3
        by_cases hx : x < w
        · have hxu : x < u[y].length := by omega
          have hxd : x < d[y].length := by omega
          have s1 := cnt_snoc hxu
          have s2 := cnt_snoc hxd
          have hw1 : IntKind.i64.wrap ((x : Int) + 1) = ((x + 1 : Nat) : Int) := wrap_ok (by omega) (by omega)
          have hw2 : IntKind.i64.wrap ((e : Int) + 1) = ((e + 1 : Nat) : Int) := wrap_ok (by omega) (by omega)
          have hw3 : IntKind.i64.wrap ((e : Int) + 1 + 1) = ((e + 2 : Nat) : Int) := by rw [wrap_ok (by omega) (by omega)]; omega
          cases b1 : u[y][x] <;> cases b2 : (d[y])[x] <;> rw [b1] at s1 <;> rw [b2] at s2 <;> simp at s1 s2
          · simp [hx, hyu, hyd, hxu, hxd, b1, b2, hw1]
            refine hK2 (x + 1, e) _ _ (by dsimp only; omega) ?_
            simp
            omega
          · simp [hx, hyu, hyd, hxu, hxd, b1, b2, hw1, hw2]
            refine hK2 (x + 1, e + 1) _ _ (by dsimp only; omega) ?_
            simp
            omega
          · simp [hx, hyu, hyd, hxu, hxd, b1, b2, hw1, hw2]
            refine hK2 (x + 1, e + 1) _ _ (by dsimp only; omega) ?_
            simp
            omega
          · simp [hx, hyu, hyd, hxu, hxd, b1, b2, hw1, hw2, hw3]
            refine hK2 (x + 1, e + 2) _ _ (by dsimp only; omega) ?_
            simp
            omega
        · obtain rfl : x = w := by omega
          rw [List.take_of_length_le (by omega), List.take_of_length_le (by omega)] at g2
          have hw1 : IntKind.i64.wrap ((y : Int) + 1) = ((y + 1 : Nat) : Int) := wrap_ok (by omega) (by omega)
          simp
          refine hX2 _ _ _ ?_
          simp [hw1]
          refine hK (y + 1, e) _ _ (by dsimp only; omega) ?_
          simp
          exact ⟨by omega, by rw [cntD_snoc hyu, cntD_snoc hyd]; omega, by omega⟩
    · rw [List.take_of_length_le (by omega), List.take_of_length_le (by omega)] at h2
      simp [hy]
      refine hX _ _ _ ?_
      simp
      refine hR _ _ ?_
      simp [X14, h2]
def cntS (S : List (List (List Bool))) : Nat := (S.map cntD).sum
theorem cntS_snoc {d : List (List (List Bool))} {k : Nat} (h : k < d.length) : cntS (d.take (k + 1)) = cntS (d.take k) + cntD d[k] := by
  rw [take_snoc h, cntS, List.map_append, List.sum_append]; simp [cntS]
theorem Dots_fn (w h : Int) (u d : List (List Bool)) (hu : u.length ≤ 1000) (hd : d.length ≤ 1000) (wu : ∀ r ∈ u, r.length ≤ 1000) (wd : ∀ r ∈ d, r.length ≤ 1000) : Am.Fn Try.prog 13 [0] [PC w h u d] (I ((cntD u + cntD d : Nat) : Int)) := by
  obtain ⟨S, hS⟩ : ∃ S, S = [u, d] := ⟨_, rfl⟩
  have lS : S.length = 2 := by rw [hS]; rfl
  have hS1 : ∀ s ∈ S, s.length ≤ 1000 ∧ ∀ r ∈ s, r.length ≤ 1000 := by
    rw [hS]; intro s hs; simp at hs; rcases hs with rfl | rfl
    · exact ⟨hu, wu⟩
    · exact ⟨hd, wd⟩
  have hS2 : cntS S = cntD u + cntD d := by rw [hS]; simp [cntS]
  rw [← hS2]
  have hS3 : S.map DT = [DT u, DT d] := by rw [hS]; rfl
  refine fn_introX mixed (X := X13) c13 4 (by simp [X13]) fun Q hR hN => ?_
  simp [X13]
  clear hS
  refine loopX (fun (p : Nat × Nat) vs h' => p.1 ≤ 2 ∧ p.2 = cntS (S.take p.1) ∧ p.2 ≤ p.1 * 1000000 ∧ vs = [.undef, .undef, .undef, I p.2, .undef, .undef, .undef, .own 2 1 2 1 0 2, I 2, I p.1, .undef, .undef, .undef, .undef, .undef, .undef, .undef, .undef, .undef, .undef] ∧
    h' = [dd, dd, (1, .arr 1 0 false (S.map DT)), dd]) (fun p => 2 - p.1) (0, 0) ?_ ?_
  · simp [cntS, hS3]
  · rintro ⟨i, c⟩ vs h' ⟨h1, h2, h3, rfl, rfl⟩ Q' hK hX hR'
    dsimp only at h1 h2 h3
    by_cases hi : i < 2
    · have hiS : i < S.length := by omega
      have hi' : (i : Int) < 2 := by omega
      obtain ⟨t1, t2⟩ := hS1 _ (List.getElem_mem hiS)
      have hs1 := cntS_snoc hiS
      simp [hi, hi', hiS, lS]
      generalize S[i] = s at t1 t2 hs1
      have t3 := cntD_le t2
      refine loopX (fun (p : Nat × Nat) vs h' => p.1 ≤ s.length ∧ p.2 = c + cntD (s.take p.1) ∧ p.2 ≤ c + p.1 * 1000 ∧ vs = [.undef, .undef, .undef, I p.2, .undef, .undef, .undef, .own 2 1 2 1 0 2, I 2, I i, .undef, DT s, I s.length, I p.1, .undef, .undef, .undef, .undef, .undef, .undef] ∧
        h' = [dd, dd, (1, .arr 1 0 false (S.map DT)), dd]) (fun p => s.length - p.1) (0, c) ?_ ?_
      · simp [cntD]
      · rintro ⟨j, c2⟩ vs h' ⟨g1, g2, g3, rfl, rfl⟩ Q2 hK2 hX2 hR2
        dsimp only at g1 g2 g3
        by_cases hj : j < s.length
        · have lr := t2 _ (List.getElem_mem hj)
          have hs2 := cntD_snoc hj
          simp [hj]
          generalize s[j] = r at lr hs2
          refine loopX (fun (p : Nat × Nat) vs h' => p.1 ≤ r.length ∧ p.2 = c2 + cnt (r.take p.1) ∧ p.2 ≤ c2 + p.1 ∧ vs = [.undef, .undef, .undef, I p.2, .undef, .undef, .undef, .own 2 1 2 1 0 2, I 2, I i, .undef, DT s, I s.length, I j, .undef, RW r, I r.length, I p.1, .undef, .undef] ∧
            h' = [dd, dd, (1, .arr 1 0 false (S.map DT)), dd]) (fun p => r.length - p.1) (0, c2) ?_ ?_
          · simp [cnt]
          · rintro ⟨x, e⟩ vs h' ⟨k1, k2, k3, rfl, rfl⟩ Q3 hK3 hX3 hR3
            dsimp only at k1 k2 k3
            by_cases hx : x < r.length
            · have hw1 : IntKind.i64.wrap ((x : Int) + 1) = ((x + 1 : Nat) : Int) := wrap_ok (by omega) (by omega)
              have hw2 : IntKind.i64.wrap ((e : Int) + 1) = ((e + 1 : Nat) : Int) := wrap_ok (by omega) (by omega)
              have s1 := cnt_snoc hx
              cases b1 : r[x] <;> rw [b1] at s1 <;> simp at s1
              · simp [hx, b1, hw1]
                refine hK3 (x + 1, e) _ _ (by dsimp only; omega) ?_
                simp
                omega
              · simp [hx, b1, hw1, hw2]
                refine hK3 (x + 1, e + 1) _ _ (by dsimp only; omega) ?_
                simp
                omega
            · rw [List.take_of_length_le (by omega)] at k2
              have hw1 : IntKind.i64.wrap ((j : Int) + 1) = ((j + 1 : Nat) : Int) := wrap_ok (by omega) (by omega)
              simp [hx]
              refine hX3 _ _ _ ?_
              simp [hw1]
              refine hK2 (j + 1, e) _ _ (by dsimp only; omega) ?_
              simp
              have := cnt_le r
              exact ⟨by omega, by omega, by omega⟩
        · rw [List.take_of_length_le (by omega)] at g2
          have hw1 : IntKind.i64.wrap ((i : Int) + 1) = ((i + 1 : Nat) : Int) := wrap_ok (by omega) (by omega)
          simp [hj]
          refine hX2 _ _ _ ?_
          simp [hw1]
          refine hK (i + 1, c2) _ _ (by dsimp only; omega) ?_
          simp
          have : s.length * 1000 ≤ 1000 * 1000 := Nat.mul_le_mul_right _ t1
          exact ⟨by omega, by omega, by omega⟩
    · obtain rfl : i = 2 := by omega
      rw [List.take_of_length_le (by omega)] at h2
      simp
      refine hX _ _ _ ?_
      simp
      refine hR _ _ ?_
      simp [X13, h2]
end Go.Proofs.Ytalgbgeocpbadaa.K
