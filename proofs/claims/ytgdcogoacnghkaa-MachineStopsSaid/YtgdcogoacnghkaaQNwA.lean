/-
  Chapter 27: what scanning finds.
-/
import Derived.Test.YtgdcogoacnghkaaQNvA
namespace Go.Proofs.Ytgdcogoacnghkaa.N
set_option linter.unusedSimpArgs false
set_option linter.unusedVariables false
set_option linter.unusedSectionVars false
open Go.Proofs.Ytgdcogoacnghkaa.Am
set_option maxHeartbeats 4000000
/-- where rows differ -/
def dif (off y : Int) : Nat → List Bool → List Bool → List (Int × Int)
  | x, a :: r, b :: s => if a ≠ b then (off + x, y) :: dif off y (x + 1) r s else dif off y (x + 1) r s
  | _, _, _ => []
def scanG (w : Int) : Nat → List (List Bool) → List (List Bool) → List (List Bool) → List (List Bool) → List (Int × Int)
  | y, u :: us, d :: ds, u' :: us', d' :: ds' => (dif 0 y 0 u u' ++ dif w y 0 d d') ++ scanG w (y + 1) us ds us' ds'
  | _, _, _, _, _ => []
theorem dif_step {off y : Int} {a b : List Bool} {j : Nat} (h1 : j < a.length) (h2 : j < b.length) : dif off y j (a.drop j) (b.drop j) = (if a[j] ≠ b[j] then [(off + (j : Int), y)] else []) ++ dif off y (j + 1) (a.drop (j + 1)) (b.drop (j + 1)) := by
  rw [List.drop_eq_getElem_cons h1, List.drop_eq_getElem_cons h2, dif]
  split <;> simp
theorem dif_end {off y : Int} {a b : List Bool} {j : Nat} (h1 : a.length ≤ j) : dif off y j (a.drop j) (b.drop j) = [] := by
  rw [List.drop_eq_nil_of_le h1]; simp [dif]
theorem scanG_step {w : Int} {u d u' d' : List (List Bool)} {k : Nat} (h1 : k < u.length) (h2 : k < d.length) (h3 : k < u'.length) (h4 : k < d'.length) : scanG w k (u.drop k) (d.drop k) (u'.drop k) (d'.drop k) = (dif 0 k 0 u[k] u'[k] ++ dif w k 0 d[k] d'[k]) ++ scanG w (k + 1) (u.drop (k + 1)) (d.drop (k + 1)) (u'.drop (k + 1)) (d'.drop (k + 1)) := by
  rw [List.drop_eq_getElem_cons h1, List.drop_eq_getElem_cons h2, List.drop_eq_getElem_cons h3, List.drop_eq_getElem_cons h4, scanG]
theorem scanG_end {w : Int} {u d u' d' : List (List Bool)} {k : Nat} (h1 : u.length ≤ k) : scanG w k (u.drop k) (d.drop k) (u'.drop k) (d'.drop k) = [] := by
  rw [List.drop_eq_nil_of_le h1]; simp [scanG]
theorem Scan_fn (u d u' d' : List (List Bool)) (s : Int) (e : Bool) (worn : List Int) (m : Mad u d) (m' : Mad u' d') : Am.Fn Try.prog 21 [2] [PC 48 12 u d, OC ⟨48, 12, u', d', s, e, worn⟩] (UPT (scanG 48 0 u d u' d')) := by
  have hV := Valid_fn 48 12 u d (by omega) (by omega) (by rw [m.lu]; omega) (by rw [m.ld]; omega)
  have hV' := Valid_fn 48 12 u' d' (by omega) (by omega) (by rw [m'.lu]; omega) (by rw [m'.ld]; omega)
  rw [m.valid] at hV
  rw [m'.valid] at hV'
  obtain ⟨lu, ld, wu, wd⟩ := m
  obtain ⟨lu', ld', wu', wd'⟩ := m'
  obtain ⟨T, hT⟩ : ∃ T, scanG 48 0 u d u' d' = T := ⟨_, rfl⟩
  rw [hT]
  refine fn_introX mixed (X := X21) c21 9 (by simp [X21]) fun Q hR hN => ?_
  simp [X21]
  refine call_of hV ?_
  simp
  refine call_of hV' ?_
  simp
  refine loopX (fun (p : Nat × List (Int × Int)) vs h' => p.1 ≤ 12 ∧ p.2.length ≤ 96 * p.1 ∧ p.2 ++ scanG 48 p.1 (u.drop p.1) (d.drop p.1) (u'.drop p.1) (d'.drop p.1) = T ∧ vs = [.undef, .undef, .ptr 6 1 0, .ptr 7 1 0, .undef, .own 8 1 p.2.length 2 0 p.2.length, .undef, .undef, .undef, .undef, I 12, I p.1, .undef, .undef, .undef, .undef, .undef, .undef, .undef, .undef, .undef] ∧
    h' = [dd, dd, dd, dd, dd, dd, (1, .var [I 48, I 12, DT u, DT d]), (1, .var [I 48, I 12, DT u', DT d', I s, .bool e, IL worn]), (1, .arr 2 0 false (p.2.map PT2))]) (fun p => 12 - p.1) (0, []) ?_ ?_
  · simp [hT]
  · rintro ⟨k, l⟩ vs h' ⟨h1, h0, h2, rfl, rfl⟩ Q' hK hX hR'
    dsimp only at h1 h2 h0
    by_cases hk : k < 12
    · have hk' : (k : Int) < 12 := by omega
      have hku : k < u.length := by omega
      have hkd : k < d.length := by omega
      have hku' : k < u'.length := by omega
      have hkd' : k < d'.length := by omega
      have wuk := wid_get wu hku
      have wdk := wid_get wd hkd
      have wuk' := wid_get wu' hku'
      have wdk' := wid_get wd' hkd'
      rw [scanG_step hku hkd hku' hkd'] at h2
      simp [hk']
      refine loopX (fun (p : Nat × List (Int × Int)) vs h' => p.1 ≤ 48 ∧ p.2.length ≤ 96 * k + p.1 ∧ p.2 ++ ((dif 0 k p.1 (u[k].drop p.1) (u'[k].drop p.1) ++ dif 48 k 0 d[k] d'[k]) ++ scanG 48 (k + 1) (u.drop (k + 1)) (d.drop (k + 1)) (u'.drop (k + 1)) (d'.drop (k + 1))) = T ∧ vs = [.undef, .undef, .ptr 6 1 0, .ptr 7 1 0, .undef, .own 8 1 p.2.length 2 0 p.2.length, I k, .undef, .undef, .undef, I 12, I k, .undef, I 48, I p.1, .undef, .undef, .undef, .undef, .undef, .undef] ∧
        h' = [dd, dd, dd, dd, dd, dd, (1, .var [I 48, I 12, DT u, DT d]), (1, .var [I 48, I 12, DT u', DT d', I s, .bool e, IL worn]), (1, .arr 2 0 false (p.2.map PT2))]) (fun p => 48 - p.1) (0, l) ?_ ?_
      · simp [h0]; simpa using h2
      · rintro ⟨j, l1⟩ vs h' ⟨g1, g0, g2, rfl, rfl⟩ Q2 hK2 hX2 hR2
        dsimp only at g1 g2 g0
        by_cases hj : j < 48
        · have hj' : (j : Int) < 48 := by omega
          have hju : j < u[k].length := by omega
          have hju' : j < u'[k].length := by omega
          have hw2 : IntKind.i64.wrap ((j : Int) + 1) = ((j + 1 : Nat) : Int) := wrap_ok (by omega) (by omega)
          have hc : (l1.length + 1) * 16 ≤ 140737488355328 := by omega
          rw [dif_step hju hju'] at g2
          by_cases t : u[k][j] = u'[k][j]
          · simp [t] at g2
            simp [hj', hku, hku', hju, hju', t, hw2]
            refine hK2 (j + 1, l1) _ _ (by dsimp only; omega) ?_
            simp
            exact ⟨by omega, by omega, g2⟩
          · simp [t] at g2
            simp [hj', hku, hku', hju, hju', t, hw2, hc]
            refine hK2 (j + 1, l1 ++ [((j : Int), (k : Int))]) _ _ (by dsimp only; omega) ?_
            simp
            exact ⟨by omega, by omega, g2⟩
        · obtain rfl : j = 48 := by omega
          rw [dif_end (by omega), List.nil_append] at g2
          simp
          refine hX2 _ _ _ ?_
          simp
          clear hK2 hX2 hR2
          refine loopX (fun (p : Nat × List (Int × Int)) vs h' => p.1 ≤ 48 ∧ p.2.length ≤ 96 * k + 48 + p.1 ∧ p.2 ++ (dif 48 k p.1 (d[k].drop p.1) (d'[k].drop p.1) ++ scanG 48 (k + 1) (u.drop (k + 1)) (d.drop (k + 1)) (u'.drop (k + 1)) (d'.drop (k + 1))) = T ∧ vs = [.undef, .undef, .ptr 6 1 0, .ptr 7 1 0, .undef, .own 8 1 p.2.length 2 0 p.2.length, I k, .undef, .undef, .undef, I 12, I k, .undef, .undef, .undef, .undef, .undef, I 48, I p.1, .undef, .undef] ∧
            h' = [dd, dd, dd, dd, dd, dd, (1, .var [I 48, I 12, DT u, DT d]), (1, .var [I 48, I 12, DT u', DT d', I s, .bool e, IL worn]), (1, .arr 2 0 false (p.2.map PT2))]) (fun p => 48 - p.1) (0, l1) ?_ ?_
          · simp; exact ⟨by omega, g2⟩
          · rintro ⟨j, l2⟩ vs h' ⟨f1, f0, f2, rfl, rfl⟩ Q2 hK2 hX2 hR2
            dsimp only at f1 f2 f0
            by_cases hj : j < 48
            · have hj' : (j : Int) < 48 := by omega
              have hjd : j < d[k].length := by omega
              have hjd' : j < d'[k].length := by omega
              have hw2 : IntKind.i64.wrap ((j : Int) + 1) = ((j + 1 : Nat) : Int) := wrap_ok (by omega) (by omega)
              have hw3 : IntKind.i64.wrap (48 + (j : Int)) = 48 + (j : Int) := wrap_ok (by omega) (by omega)
              have hc : (l2.length + 1) * 16 ≤ 140737488355328 := by omega
              rw [dif_step hjd hjd'] at f2
              by_cases t : d[k][j] = d'[k][j]
              · simp [t] at f2
                simp [hj', hkd, hkd', hjd, hjd', t, hw2]
                refine hK2 (j + 1, l2) _ _ (by dsimp only; omega) ?_
                simp
                exact ⟨by omega, by omega, f2⟩
              · simp [t] at f2
                simp [hj', hkd, hkd', hjd, hjd', t, hw2, hw3, hc]
                refine hK2 (j + 1, l2 ++ [(48 + (j : Int), (k : Int))]) _ _ (by dsimp only; omega) ?_
                simp
                exact ⟨by omega, by omega, f2⟩
            · obtain rfl : j = 48 := by omega
              have hw1 : IntKind.i64.wrap ((k : Int) + 1) = ((k + 1 : Nat) : Int) := wrap_ok (by omega) (by omega)
              rw [dif_end (by omega), List.nil_append] at f2
              simp
              refine hX2 _ _ _ ?_
              simp [hw1]
              refine hK (k + 1, l2) _ _ (by dsimp only; omega) ?_
              simp
              exact ⟨by omega, by omega, f2⟩
    · obtain rfl : k = 12 := by omega
      rw [scanG_end (by omega), List.append_nil] at h2
      subst h2
      simp
      refine hX _ _ _ ?_
      simp
      refine hR _ _ ?_
      simp [X21]
theorem RScan_fn (u d u' d' : List (List Bool)) (s : Int) (e : Bool) (worn : List Int) (m : Mad u d) (m' : Mad u' d') : Am.Fn Try.prog 22 [2] [PC 48 12 u d, OC ⟨48, 12, u', d', s, e, worn⟩] (UPT (scanG 48 0 u d u' d')) := by
  obtain ⟨lu, ld, wu, wd⟩ := m
  obtain ⟨lu', ld', wu', wd'⟩ := m'
  obtain ⟨T, hT⟩ : ∃ T, scanG 48 0 u d u' d' = T := ⟨_, rfl⟩
  rw [hT]
  refine fn_introX mixed (X := X22) c22 9 (by simp [X22]) fun Q hR hN => ?_
  simp [X22]
  refine loopX (fun (p : Nat × List (Int × Int)) vs h' => p.1 ≤ 12 ∧ p.2.length ≤ 96 * p.1 ∧ p.2 ++ scanG 48 p.1 (u.drop p.1) (d.drop p.1) (u'.drop p.1) (d'.drop p.1) = T ∧ vs = [.undef, .undef, .ptr 5 1 0, .ptr 6 1 0, .undef, .own 7 1 p.2.length 2 0 p.2.length, I p.1, .undef, .undef, .undef, .undef, .undef, .undef] ∧
    h' = [dd, dd, dd, dd, dd, (1, .var [I 48, I 12, DT u, DT d]), (1, .var [I 48, I 12, DT u', DT d', I s, .bool e, IL worn]), (1, .arr 2 0 false (p.2.map PT2)), dd]) (fun p => 12 - p.1) (0, []) ?_ ?_
  · simp [hT]
  · rintro ⟨k, l⟩ vs h' ⟨h1, h0, h2, rfl, rfl⟩ Q' hK hX hR'
    dsimp only at h1 h2 h0
    by_cases hk : k < 12
    · have hk' : (k : Int) < 12 := by omega
      have hku : k < u.length := by omega
      have hkd : k < d.length := by omega
      have hku' : k < u'.length := by omega
      have hkd' : k < d'.length := by omega
      have wuk := wid_get wu hku
      have wdk := wid_get wd hkd
      have wuk' := wid_get wu' hku'
      have wdk' := wid_get wd' hkd'
      rw [scanG_step hku hkd hku' hkd'] at h2
      simp [hk']
      refine loopX (fun (p : Nat × List (Int × Int)) vs h' => p.1 ≤ 96 ∧ p.2.length ≤ 96 * k + p.1 ∧ p.2 ++ ((dif 0 k p.1 (u[k].drop p.1) (u'[k].drop p.1) ++ dif 48 k (p.1 - 48) (d[k].drop (p.1 - 48)) (d'[k].drop (p.1 - 48))) ++ scanG 48 (k + 1) (u.drop (k + 1)) (d.drop (k + 1)) (u'.drop (k + 1)) (d'.drop (k + 1))) = T ∧ vs = [.undef, .undef, .ptr 5 1 0, .ptr 6 1 0, .undef, .own 7 1 p.2.length 2 0 p.2.length, I k, I p.1, .undef, .undef, .undef, .undef, .undef] ∧
        h' = [dd, dd, dd, dd, dd, (1, .var [I 48, I 12, DT u, DT d]), (1, .var [I 48, I 12, DT u', DT d', I s, .bool e, IL worn]), (1, .arr 2 0 false (p.2.map PT2)), dd]) (fun p => 96 - p.1) (0, l) ?_ ?_
      · simp [h0]; simpa using h2
      · rintro ⟨j, l1⟩ vs h' ⟨g1, g0, g2, rfl, rfl⟩ Q2 hK2 hX2 hR2
        dsimp only at g1 g2 g0
        have hw2 : IntKind.i64.wrap ((j : Int) + 1) = ((j + 1 : Nat) : Int) := wrap_ok (by omega) (by omega)
        have hc : (l1.length + 1) * 16 ≤ 140737488355328 := by omega
        have h96 : IntKind.i64.wrap 96 = 96 := wrap_ok (by omega) (by omega)
        by_cases hj : j < 48
        · have hj' : (j : Int) < 48 := by omega
          have hj2 : (j : Int) < 96 := by omega
          have hju : j < u[k].length := by omega
          have hju' : j < u'[k].length := by omega
          rw [dif_step hju hju'] at g2
          rw [show j - 48 = j + 1 - 48 by omega] at g2
          by_cases t : u[k][j] = u'[k][j]
          · simp [t] at g2
            simp [h96, hj', hj2, hku, hku', hju, hju', t, hw2]
            refine hK2 (j + 1, l1) _ _ (by dsimp only; omega) ?_
            simp
            exact ⟨by omega, by omega, g2⟩
          · simp [t] at g2
            simp [h96, hj', hj2, hku, hku', hju, hju', t, hw2, hc]
            refine hK2 (j + 1, l1 ++ [((j : Int), (k : Int))]) _ _ (by dsimp only; omega) ?_
            simp
            exact ⟨by omega, by omega, g2⟩
        · by_cases hj2 : j < 96
          · have hj3 : (j : Int) < 96 := by omega
            have hj' : ¬ (j : Int) < 48 := by omega
            obtain ⟨i, rfl⟩ : ∃ i, j = 48 + i := ⟨j - 48, by omega⟩
            have hid : i < d[k].length := by omega
            have hid' : i < d'[k].length := by omega
            have hw3 : IntKind.i64.wrap (48 + (i : Int) - 48) = (i : Int) := wrap_ok (by omega) (by omega) |>.trans (by omega)
            rw [dif_end (by omega), show 48 + i - 48 = i by omega, dif_step hid hid', List.nil_append] at g2
            push_cast at hj' hj3 hw2
            by_cases t : d[k][i] = d'[k][i]
            · simp [t] at g2
              simp [h96, hj', hj3, hkd, hkd', hid, hid', t, hw2, hw3]
              refine hK2 (48 + i + 1, l1) _ _ (by dsimp only; omega) ?_
              rw [show 48 + i + 1 - 48 = i + 1 by omega, dif_end (by omega)]
              simp
              exact ⟨by omega, by omega, by simpa using g2⟩
            · simp [t] at g2
              simp [h96, hj', hj3, hkd, hkd', hid, hid', t, hw2, hw3, hc]
              refine hK2 (48 + i + 1, l1 ++ [(48 + (i : Int), (k : Int))]) _ _ (by dsimp only; omega) ?_
              rw [show 48 + i + 1 - 48 = i + 1 by omega, dif_end (by omega)]
              simp
              exact ⟨by omega, by omega, by simpa using g2⟩
          · obtain rfl : j = 96 := by omega
            have hw1 : IntKind.i64.wrap ((k : Int) + 1) = ((k + 1 : Nat) : Int) := wrap_ok (by omega) (by omega)
            rw [dif_end (by omega), dif_end (by omega), List.nil_append, List.nil_append] at g2
            simp [h96]
            refine hX2 _ _ _ ?_
            simp [hw1]
            refine hK (k + 1, l1) _ _ (by dsimp only; omega) ?_
            simp
            exact ⟨by omega, by omega, g2⟩
    · obtain rfl : k = 12 := by omega
      rw [scanG_end (by omega), List.append_nil] at h2
      subst h2
      simp
      refine hX _ _ _ ?_
      simp
      refine hR _ _ ?_
      simp [X22]
end Go.Proofs.Ytgdcogoacnghkaa.N
