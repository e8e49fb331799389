/-
  Chapter 28: numbers and their bytes; lists of bytes.
-/
import Derived.Test.YtkfjnbljegoomaaQJdA
namespace Go.Proofs.Ytkfjnbljegoomaa.J
set_option linter.unusedSimpArgs false
set_option linter.unusedVariables false
set_option linter.unusedSectionVars false
open Go.Proofs.Ytkfjnbljegoomaa.Am
set_option maxHeartbeats 4000000
theorem fd {n : Int} (k : Nat) (h : 0 ≤ n) : n.fdiv (k : Int) = n / (k : Int) := Int.fdiv_eq_ediv_of_nonneg _ (by omega)
theorem bytes4_fn (n : Int) (h0 : 0 ≤ n) (h1 : n < 4294967296) : Am.Fn Try.prog 29 [0, 0, 0, 0] [I n] (.agg ((b4 n).map U)) := by
  have e0 : IntKind.u32.wrap n = n := by rw [u32_eq]; omega
  have e1 : n.fdiv 16777216 = n / 16777216 := fd 16777216 h0
  have e2 : n.fdiv 65536 = n / 65536 := fd 65536 h0
  have e3 : n.fdiv 256 = n / 256 := fd 256 h0
  refine fn_introX mixed (X := X29) c29 2 (by simp [X29]) fun Q hR hN => ?_
  simp [X29, e0, bits32, e1, e2, e3]
  refine hR _ _ ?_
  simp [X29, u8_eq, b4]
theorem orI_add {x y : Int} (m : Nat) (hx : 0 ≤ x) (hx2 : x * 2 ^ m < 4611686018427387904) (hm : m ≤ 40) (hy : 0 ≤ y) (hy2 : y < 2 ^ m) : orI .i64 (x * 2 ^ m) y = x * 2 ^ m + y := by
  obtain ⟨a, rfl⟩ : ∃ a : Nat, x = a := ⟨x.toNat, by omega⟩
  obtain ⟨b, rfl⟩ : ∃ b : Nat, y = b := ⟨y.toNat, by omega⟩
  have hb : b < 2 ^ m := by exact_mod_cast hy2
  have hp : 2 ^ m ≤ 2 ^ 40 := Nat.pow_le_pow_right (by omega) hm
  have hc : ((a : Int) * 2 ^ m) = ((a * 2 ^ m : Nat) : Int) := by simp
  have hab : a * 2 ^ m < 4611686018427387904 := by rw [hc] at hx2; omega
  have e : BitVec.ofInt 64 ((a : Int) * 2 ^ m) = BitVec.ofNat 64 (a * 2 ^ m) := by
    apply BitVec.eq_of_toNat_eq
    rw [BitVec.toNat_ofInt, BitVec.toNat_ofNat]
    have : ((a : Int) * 2 ^ m) = ((a * 2 ^ m : Nat) : Int) := by simp
    rw [this]; omega
  have e2 : BitVec.ofInt 64 (b : Int) = BitVec.ofNat 64 b := by
    apply BitVec.eq_of_toNat_eq
    rw [BitVec.toNat_ofInt, BitVec.toNat_ofNat]; omega
  have e3 : (BitVec.ofNat 64 (a * 2 ^ m) ||| BitVec.ofNat 64 b).toNat = a * 2 ^ m + b := by
    rw [BitVec.toNat_or, BitVec.toNat_ofNat, BitVec.toNat_ofNat, Nat.mod_eq_of_lt (by omega), Nat.mod_eq_of_lt (by omega), ← Nat.shiftLeft_eq, ← Nat.shiftLeft_add_eq_or_of_lt hb]
  show IntKind.i64.wrap ((BitVec.ofInt 64 ((a : Int) * 2 ^ m) ||| BitVec.ofInt 64 (b : Int)).toNat : Int) = _
  rw [e, e2, e3, wrap_ok (by omega) (by omega)]
  push_cast; rfl
theorem num_snoc {l : List Int} {k : Nat} (h : k < l.length) : num4 (l.take (k + 1)) = num4 (l.take k) * 256 + l[k] := by
  unfold num4; rw [List.take_succ_eq_append_getElem h, List.foldl_append]; rfl
theorem number_fn (l : List Int) (hl : l.length = 4) (hc : ∀ c ∈ l, 0 ≤ c ∧ c ≤ 255) : Am.Fn Try.prog 31 [0] [BL l] (I (num4 l)) := by
  refine fn_introX mixed (X := X31) c31 1 (by simp [X31]) fun Q hR hN => ?_
  simp [X31]
  refine loopX (fun (p : Nat × Int) vs h' => p.1 ≤ l.length ∧ p.2 = num4 (l.take p.1) ∧ 0 ≤ p.2 ∧ p.2 < 256 ^ p.1 ∧ vs = [.undef, .undef, I p.2, .undef, BL l, I l.length, I p.1, .undef] ∧ h' = [dd]) (fun p => l.length - p.1) (0, 0) ?_ ?_
  · simp [num4]
  · rintro ⟨k, n⟩ vs h' ⟨g1, g2, g3, g4, rfl, rfl⟩ Q' hK hX hR'
    dsimp only at g1 g2 g3 g4
    by_cases hk : k < l.length
    · obtain ⟨b1, b2⟩ := hc _ (List.getElem_mem hk)
      have hw1 : IntKind.i64.wrap ((k : Int) + 1) = ((k + 1 : Nat) : Int) := wrap_ok (by omega) (by omega)
      have g6 : n < 16777216 := by
        have : k = 0 ∨ k = 1 ∨ k = 2 ∨ k = 3 := by omega
        rcases this with rfl | rfl | rfl | rfl <;> simp at g4 <;> omega
      have hw2 : IntKind.i64.wrap (n * 256) = n * 256 := wrap_ok (by omega) (by omega)
      have hw3 : IntKind.i64.wrap l[k] = l[k] := wrap_ok (by omega) (by omega)
      have ho : orI .i64 (n * 256) l[k] = n * 256 + l[k] := orI_add 8 (by omega) (by omega) (by omega) b1 (by omega)
      simp [hk, bits64, hw2, hw3, ho, hw1]
      refine hK (k + 1, n * 256 + l[k]) _ _ (by dsimp only; omega) ?_
      have := num_snoc hk
      rw [← g2] at this
      simp [this]
      refine ⟨by omega, by omega, ?_⟩
      rw [Int.pow_succ]; omega
    · obtain rfl : k = l.length := by omega
      rw [List.take_length] at g2
      simp
      refine hX _ _ _ ?_
      simp
      refine hR _ _ ?_
      simp [X31, g2]
/-- .. of the reference -/
theorem read_fn (l : List Int) (hl : l.length = 4) (hc : ∀ c ∈ l, 0 ≤ c ∧ c ≤ 255) : Am.Fn Try.prog 21 [0] [BL l] (I (num4 l)) := by
  obtain ⟨a, b, c, d, rfl⟩ : ∃ a b c d, l = [a, b, c, d] := by
    match l, hl with
    | [a, b, c, d], _ => exact ⟨a, b, c, d, rfl⟩
  have ha := hc a (by simp)
  have hb := hc b (by simp)
  have hcc := hc c (by simp)
  have hd := hc d (by simp)
  have w1 : IntKind.i64.wrap a = a := wrap_ok (by omega) (by omega)
  have w2 : IntKind.i64.wrap b = b := wrap_ok (by omega) (by omega)
  have w3 : IntKind.i64.wrap c = c := wrap_ok (by omega) (by omega)
  have w4 : IntKind.i64.wrap d = d := wrap_ok (by omega) (by omega)
  have s1 : IntKind.i64.wrap (a * 16777216) = a * 16777216 := wrap_ok (by omega) (by omega)
  have s2 : IntKind.i64.wrap (b * 65536) = b * 65536 := wrap_ok (by omega) (by omega)
  have s3 : IntKind.i64.wrap (c * 256) = c * 256 := wrap_ok (by omega) (by omega)
  have o1 : orI .i64 (a * 16777216) (b * 65536) = a * 16777216 + b * 65536 := orI_add 24 (by omega) (by omega) (by omega) (by omega) (by omega)
  have o2 : orI .i64 (a * 16777216 + b * 65536) (c * 256) = a * 16777216 + b * 65536 + c * 256 := by
    have := orI_add (x := a * 256 + b) (y := c * 256) 16 (by omega) (by omega) (by omega) (by omega) (by omega)
    rw [show a * 16777216 + b * 65536 = (a * 256 + b) * 2 ^ 16 by omega, this]
  have o3 : orI .i64 (a * 16777216 + b * 65536 + c * 256) d = a * 16777216 + b * 65536 + c * 256 + d := by
    have := orI_add (x := a * 65536 + b * 256 + c) (y := d) 8 (by omega) (by omega) (by omega) (by omega) (by omega)
    rw [show a * 16777216 + b * 65536 + c * 256 = (a * 65536 + b * 256 + c) * 2 ^ 8 by omega, this]
  refine fn_introX mixed (X := X21) c21 1 (by simp [X21]) fun Q hR hN => ?_
  simp [X21, bits64, w1, w2, w3, w4, s1, s2, s3, o1, o2, o3]
  refine hR _ _ ?_
  simp [X21, num4]
  omega
abbrev RC (r : Rec) : PV := .agg [I r.kind, I r.a, I r.b]
theorem Valid_fn (r : Rec) : Am.Fn Try.prog 22 [0] [RC r] (.bool (decide (okR r))) := by
  obtain ⟨k, a, b⟩ := r
  refine fn_introX mixed (X := X22) c22 2 (by simp [X22]) fun Q hR hN => ?_
  by_cases a1 : 1 ≤ k
  · by_cases a2 : k ≤ 5
    · by_cases a3 : 0 ≤ a
      · by_cases a4 : a < 2147483648
        · by_cases a5 : 0 ≤ b
          · by_cases a6 : b < 2147483648
            · simp [X22, a1, a2, a3, a4, a5, a6]
              refine hR _ _ ?_
              simp [X22, okR, a1, a2, a3, a4, a5, a6]
            · simp [X22, a1, a2, a3, a4, a5, a6]
              refine hR _ _ ?_
              simp [X22, okR, a6]
              try omega
          · simp [X22, a1, a2, a3, a4, a5]
            refine hR _ _ ?_
            simp [X22, okR, a5]
        · simp [X22, a1, a2, a3, a4]
          refine hR _ _ ?_
          simp [X22, okR, a4]
          try omega
      · simp [X22, a1, a2, a3]
        refine hR _ _ ?_
        simp [X22, okR, a3]
    · simp [X22, a1, a2]
      refine hR _ _ ?_
      simp [X22, okR, a2]
  · simp [X22, a1]
    refine hR _ _ ?_
    simp [X22, okR, a1]
theorem take_eq {α : Type} {a b : List α} {k : Nat} (h : a.take k = b.take k) (h1 : k < a.length) (h2 : k < b.length) (e : a[k] = b[k]) : a.take (k + 1) = b.take (k + 1) := by
  rw [List.take_succ_eq_append_getElem h1, List.take_succ_eq_append_getElem h2, h, e]
theorem all_eq {α : Type} {a b : List α} {k : Nat} (h : a.take k = b.take k) (h1 : a.length ≤ k) (h2 : a.length = b.length) : a = b := by
  rw [List.take_of_length_le h1, List.take_of_length_le (by omega)] at h; exact h
theorem Equal_fn (a b : List Int) (ha : a.length ≤ 100000) : Am.Fn Try.prog 32 [0] [BL a, BL b] (.bool (decide (a = b))) := by
  refine fn_introX mixed (X := X32) c32 1 (by simp [X32]) fun Q hR hN => ?_
  by_cases hl : a.length = b.length
  · simp [X32, hl]
    refine loopX (fun (k : Nat) vs h' => k ≤ a.length ∧ a.take k = b.take k ∧ vs = [BL a, BL b, .undef, .undef, .undef, I b.length, I k, .undef, .undef] ∧ h' = [dd]) (fun k => a.length - k) 0 ?_ ?_
    · simp
    · rintro k vs h' ⟨g1, g2, rfl, rfl⟩ Q' hK hX hR'
      by_cases hk : k < a.length
      · have hkb : k < b.length := by omega
        have hw1 : IntKind.i64.wrap ((k : Int) + 1) = ((k + 1 : Nat) : Int) := wrap_ok (by omega) (by omega)
        by_cases he : a[k] = b[k]
        · simp [hk, hkb, he, hw1]
          refine hK (k + 1) _ _ (by omega) ?_
          simp [take_eq g2 hk hkb he]
          omega
        · simp [hk, hkb, he]
          refine hR' _ _ ?_
          simp
          refine hR _ _ ?_
          have : a ≠ b := fun e => he (by subst e; rfl)
          simp [X32, this]
      · have hkb : ¬ k < b.length := by omega
        have := all_eq g2 (by omega) hl
        simp [hkb]
        refine hX _ _ _ ?_
        simp
        refine hR _ _ ?_
        simp [X32, this]
  · have : a ≠ b := fun e => hl (by rw [e])
    simp [X32, hl]
    refine hR _ _ ?_
    simp [X32, this]
theorem Clone_fn (l : List Int) (hl : l.length ≤ 100000) : Am.Fn Try.prog 24 [1] [BL l] (.uslc (l.map U)) := by
  by_cases h0 : l = []
  · subst h0
    refine Fn_emp (pre := []) (post := []) (Fn_nil (by omega) ?_) ?_
    · refine fn_introX mixed (X := X24) c24 2 (by simp [X24]) fun Q hR hN => ?_
      simp [X24]
      refine hR _ _ ?_
      simp [X24]
    · refine fn_introX mixed (X := X24) c24 2 (by simp [X24]) fun Q hR hN => ?_
      simp [X24]
      refine hR _ _ ?_
      simp [X24]
  · have q : l.length ≤ 140737488355328 := by omega
    refine fn_introX mixed (X := X24) c24 2 (by simp [X24]) fun Q hR hN => ?_
    simp [X24, h0, q]
    refine hR _ _ ?_
    simp [X24]
end Go.Proofs.Ytkfjnbljegoomaa.J
