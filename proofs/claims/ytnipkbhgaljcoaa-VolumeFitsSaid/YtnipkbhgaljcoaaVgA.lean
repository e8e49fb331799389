/-
  Chapter 23: Split of ill-formed blocks; what Made gives.
-/
import Derived.Test.YtnipkbhgaljcoaaVfA
namespace Go.Proofs.Ytnipkbhgaljcoaa.V
set_option linter.unusedSimpArgs false
set_option linter.unusedVariables false
set_option linter.unusedSectionVars false
open Go.Proofs.Ytnipkbhgaljcoaa.Am
def splitP (c : List (List Int)) (b : List Bool) (m : Int) : PV := if shp c b.length then splitR (oks c b m b.length) b.length else .tup [.nils, I 1]
theorem Split_fn (c : List (List Int)) (b : List Bool) (m : Int) (hc : c.length ≤ maxLen) (hb : b.length ≤ 10000) (hm : 1 ≤ m) : Am.Fn Try.prog 12 [1, 0] [LL c, BL b, I m] (splitP c b m) := by
  unfold splitP
  have hb' : b.length < maxLen := by unfold maxLen; omega
  split
  · rename_i hs; exact split_fill c b m hc hb' hs hm (by omega)
  · rename_i hs
    refine fn_introX mixed (X := X12) c12 8 (by simp [X12]) fun Q hR hN => ?_
    simp [X12, r_nil]
    refine call_of (shaped_fn c b.length hc ⟨by omega, by unfold maxLen at hb'; omega⟩) ?_
    simp [callOk, r_nil, hs]
    refine hR _ _ ?_
    simp [X12, fin]
abbrev UL (xs : List Int) : PV := .uslc (xs.map I)
abbrev UBk (c : List (List Int)) (b : List Bool) (m : Int) : PV := .agg [.uslc (c.map UL), .uslc (b.map .bool), I m]
def good (c : List (List Int)) (b : List Bool) (m : Int) : Prop := shp c b.length = true ∧ b.length ≤ 9 ∧ 1 ≤ m ∧ m ≤ 6
abbrev LK (k : IntKind) (xs : List Int) : PV := .slc (xs.map (.int k))
theorem frzI : frzE ∘ I = I := rfl
theorem set_map (l : List Int) (j : Nat) (v : Int) : (List.map I l).set j (PV.int .i64 v) = List.map I (l.set j v) := by rw [List.map_set]
set_option maxHeartbeats 1000000 in
theorem Made_fn (lv : List Int) (bg : List Bool) (an : List Int) (mo : Int) (hl : lv.length ≤ maxLen) (hbg : bg.length ≤ maxLen) (ha : an.length ≤ maxLen) (hmo : 0 ≤ mo ∧ mo ≤ 255) :
    ∃ c b m, good c b m ∧ Am.Fn Try.prog 8 [1, 1, 0] [.agg [LK .u8 lv, BL bg, LK .i8 an, .int .u8 mo]] (UBk c b m) := by
  suffices h : ∃ r, (∃ c b m, good c b m ∧ r = UBk c b m) ∧ Am.Fn Try.prog 8 [1, 1, 0] [.agg [LK .u8 lv, BL bg, LK .i8 an, .int .u8 mo]] r by
    obtain ⟨r, ⟨c, b, m, h1, rfl⟩, h2⟩ := h; exact ⟨c, b, m, h1, h2⟩
  refine fn_introE mixed (X := X8) c8 16 (by simp [X8]) fun Q hR hN => ?_
  obtain ⟨n, hn, hn1, hn2⟩ : ∃ n : Nat, (if (9 : Int) < (lv.length : Int) then (9 : Int) else (lv.length : Int)) = (n : Int) ∧ n ≤ 9 ∧ n ≤ lv.length := by
    by_cases h : (9 : Int) < lv.length
    · exact ⟨9, by rw [if_pos h]; rfl, by omega, by omega⟩
    · exact ⟨lv.length, by rw [if_neg h], by omega, by omega⟩
  obtain ⟨m, hm, hm1, hm2⟩ : ∃ m : Int, IntKind.i64.wrap (1 + IntKind.i64.wrap (mo.tmod 6)) = m ∧ 1 ≤ m ∧ m ≤ 6 := by
    refine ⟨_, rfl, ?_⟩
    rw [Int.tmod_eq_emod_of_nonneg hmo.1, wrap_ok (n := mo % 6) (by omega) (by omega), wrap_ok (by omega) (by omega)]
    omega
  have n9 : ∀ x : Nat, (9 < x) = ((9 : Int) < (x : Int)) := fun x => by apply propext; omega
  simp [X8, r_nil, storeP, hn, hm]
  refine loopX (fun (s : Nat × List (List Int) × List Bool) vs h => s.1 ≤ n ∧ s.2.1.length = s.1 ∧ (∀ r ∈ s.2.1, r.length = n + 1) ∧ s.2.2.length = s.1 ∧
    vs = [.undef, .ptr 10 1 0, .ptr 11 1 0, I n, .ptr 12 1 0, I s.1, .undef, .undef, .undef, .undef, .undef, .undef] ∧
    h = List.replicate 10 (0, .dead) ++ [(1, .var [LK .u8 lv, BL bg, LK .i8 an, .int .u8 mo]), (1, .var [.nils, .nils, I 0]), (1, .var [.own 13 1 s.1 1 0 s.1, .own 14 1 s.1 1 0 s.1, I m]), (1, .arr 1 0 false (s.2.1.map UL)), (1, .arr 1 0 false (s.2.2.map .bool)), (0, .dead)]) (fun s => n - s.1) (0, [], []) ?_ ?_
  · simp [settled, settled, storeP]
  · rintro ⟨i, C, B⟩ vs h ⟨h1, h2, h3, h4, rfl, rfl⟩ Q hK hX hR'
    dsimp only at h1 h2 h3 h4
    by_cases hi : i < n
    · have w1 : IntKind.i64.wrap ((n : Int) + 1) = (n : Int) + 1 := wrap_ok (by omega) (by omega)
      have w2 : IntKind.i64.wrap ((i : Int) + 1) = (i : Int) + 1 := wrap_ok (by omega) (by omega)
      have b1 : (0 : Int) ≤ (n : Int) + 1 := by omega
      have b2 : ((n : Int) + 1) * 8 ≤ 140737488355328 := by omega
      have b3 : (n : Int) + 1 ≤ 9223372036854775807 := by omega
      simp [r_nil, storeP, hi, w1, w2, b1, b2, b3]
      refine loopX (fun (j : Nat) vs h => i < j ∧ j ≤ n + 1 ∧ ∃ (row : List Int) (sum : Int), row.length = n + 1 ∧
        vs = [.undef, .ptr 10 1 0, .ptr 11 1 0, I n, .ptr 12 1 0, I i, .own 13 1 (n + 1) 1 0 (n + 1), I sum, I j, .undef, .undef, .undef] ∧
        h = List.replicate 10 (0, .dead) ++ [(1, .var [LK .u8 lv, BL bg, LK .i8 an, .int .u8 mo]), (1, .var [.nils, .nils, I 0]), (1, .var [.own 14 1 i 1 0 i, .own 15 1 i 1 0 i, I m]), (1, .arr 1 0 false (row.map I)), (1, .arr 1 0 false (C.map UL)), (1, .arr 1 0 false (B.map .bool))]) (fun j => n + 1 - j) (i + 1) ?_ ?_
      · simp [settled, settled, storeP]
        exact ⟨by omega, List.replicate (n + 1) 0, by simp, by simp⟩
      · rintro j vs h ⟨g1, g2, row, sum, g3, rfl, rfl⟩ Q hK2 hX2 hR2
        by_cases hj : j ≤ n
        · have w3 : IntKind.i64.wrap ((j : Int) - 1) = ((j - 1 : Nat) : Int) := by rw [wrap_ok (by omega) (by omega)]; omega
          have w4 : IntKind.i64.wrap ((j : Int) + 1) = (j : Int) + 1 := wrap_ok (by omega) (by omega)
          have b4 : j - 1 < lv.length := by omega
          have b5 : (j : Int) < n + 1 := by omega
          have b6 : j < n + 1 := by omega
          have w5 : IntKind.i64.wrap (7 * (i : Int)) = 7 * (i : Int) := wrap_ok (by omega) (by omega)
          have w6 : IntKind.i64.wrap (7 * (i : Int) + j) = ((7 * i + j : Nat) : Int) := by rw [wrap_ok (by omega) (by omega)]; omega
          by_cases hA : an.length = 0
          · simp [r_nil, storeP, hj, w3, w4, b4, b5, b6, g3, hA]
            refine hK2 (j + 1) _ _ (by omega) ?_
            rw [set_map]
            simp [-List.map_set, settled, settled, storeP]
            exact ⟨by omega, by omega, row.set j _, by simp [g3], rfl⟩
          · have hA' : 0 < an.length := by omega
            obtain ⟨q, hq, w7⟩ : ∃ q : Nat, q < an.length ∧ (7 * (i : Int) + j).tmod (an.length : Int) = (q : Int) := by
              refine ⟨(7 * i + j) % an.length, Nat.mod_lt _ hA', ?_⟩
              rw [Int.tmod_eq_emod_of_nonneg (by omega)]
              have : (7 * (i : Int) + j) = ((7 * i + j : Nat) : Int) := by omega
              rw [this]; rfl
            have w6' : IntKind.i64.wrap (7 * (i : Int) + j) = 7 * (i : Int) + j := wrap_ok (by omega) (by omega)
            simp [r_nil, storeP, hj, w3, w4, b4, b5, b6, g3, hA, hA', w5, w6', w7, hq]
            refine hK2 (j + 1) _ _ (by omega) ?_
            rw [set_map]
            simp [-List.map_set, settled, settled, storeP]
            exact ⟨by omega, by omega, row.set j _, by simp [g3], rfl⟩
        · simp [r_nil, hj]
          refine hX2 _ _ _ ?_
          have b7 : ((i : Int) + 1) * 24 ≤ 140737488355328 := by omega
          have b8 : ((i : Int) + 1) ≤ 140737488355328 := by omega
          have b7' : (i + 1) * 24 ≤ 140737488355328 := by omega
          have b8' : (i + 1) ≤ 140737488355328 := by omega
          by_cases hB : bg.length ≤ i
          · simp [r_nil, storeP, g3, frzI, h2, h4, hB, w2, b7, b8, b7', b8']
            refine hK (i + 1, C ++ [row], B ++ [true]) _ _ (by dsimp only; omega) ?_
            simp [settled, settled, storeP, h2, h4]
            exact ⟨by omega, fun r hr => hr.elim (h3 r) fun e => e ▸ g3⟩
          · have hB' : i < bg.length := by omega
            simp [r_nil, storeP, g3, frzI, h2, h4, hB, hB', w2, b7, b8, b7', b8']
            refine hK (i + 1, C ++ [row], B ++ [bg[i]]) _ _ (by dsimp only; omega) ?_
            simp [settled, settled, storeP, h2, h4]
            exact ⟨by omega, fun r hr => hr.elim (h3 r) fun e => e ▸ g3⟩
    · simp [r_nil, hi]
      refine hX _ _ _ ?_
      simp [r_nil, storeP]
      refine hR _ _ _ ⟨C, B, m, ?_, rfl⟩ ?_
      · have : i = n := by omega
        subst this
        exact ⟨shp_iff.2 ⟨by omega, fun r hr => by rw [h3 r hr]; omega⟩, by omega, hm1, hm2⟩
      · simp [X8, fin, storeP, h2, h4]
end Go.Proofs.Ytnipkbhgaljcoaa.V
