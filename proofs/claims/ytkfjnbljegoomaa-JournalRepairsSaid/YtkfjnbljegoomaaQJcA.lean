/-
  Chapter 28: numbers as bytes, check sums.
-/
import Derived.Test.YtkfjnbljegoomaaQJbP
import Derived.Test.YtkfjnbljegoomaaQJcX
import Derived.Test.YtkfjnbljegoomaaMg4
namespace Go.Proofs.Ytkfjnbljegoomaa.J
set_option linter.unusedSimpArgs false
set_option linter.unusedVariables false
set_option linter.unusedSectionVars false
open Go.Proofs.Ytkfjnbljegoomaa.Am
set_option maxHeartbeats 4000000
theorem wrap_ok {n : Int} (h1 : -9223372036854775808 ≤ n) (h2 : n ≤ 9223372036854775807) : IntKind.i64.wrap n = n := by
  simp [IntKind.wrap, IntKind.signed, IntKind.bits]
  omega
theorem u8_eq (n : Int) : IntKind.u8.wrap n = n % 256 := by simp [IntKind.wrap, IntKind.signed, IntKind.bits]
theorem u16_eq (n : Int) : IntKind.u16.wrap n = n % 65536 := by simp [IntKind.wrap, IntKind.signed, IntKind.bits]
theorem u32_eq (n : Int) : IntKind.u32.wrap n = n % 4294967296 := by simp [IntKind.wrap, IntKind.signed, IntKind.bits]
abbrev I (n : Int) : PV := .int .i64 n
abbrev U (n : Int) : PV := .int .u8 n
abbrev BL (l : List Int) : PV := .slc (l.map U)
abbrev dd : Row := (0, .dead)
abbrev W (v : BitVec 16) : PV := .int .u16 (v.toNat : Int)
theorem of_toNat16 (x : BitVec 16) : BitVec.ofInt 16 (x.toNat : Int) = x := by
  apply BitVec.eq_of_toNat_eq; rw [BitVec.toNat_ofInt]; have := x.isLt; omega
theorem wrapN (x : BitVec 16) : IntKind.u16.wrap (x.toNat : Int) = (x.toNat : Int) := by
  rw [u16_eq]; have := x.isLt; omega
theorem shl1 (a : BitVec 16) : IntKind.u16.wrap ((a.toNat : Int) * 2) = ((a <<< 1).toNat : Int) := by
  rw [u16_eq, BitVec.toNat_shiftLeft, Nat.shiftLeft_eq]; omega
theorem shl8 {c : Int} (h0 : 0 ≤ c) (h1 : c ≤ 255) : IntKind.u16.wrap (IntKind.u16.wrap c * 256) = (((bv c).setWidth 16 <<< 8 : BitVec 16).toNat : Int) := by
  have e : IntKind.u16.wrap (IntKind.u16.wrap c * 256) = (((bv c).setWidth 16 <<< 8 : BitVec 16).toNat : Int) := by
    rw [u16_eq, u16_eq, BitVec.toNat_shiftLeft, Nat.shiftLeft_eq, BitVec.toNat_setWidth]
    unfold bv
    rw [BitVec.toNat_ofInt]
    omega
  exact e
theorem xorI16 (a b : BitVec 16) : xorI .u16 (a.toNat : Int) (b.toNat : Int) = ((a ^^^ b).toNat : Int) := by
  show IntKind.u16.wrap ((BitVec.ofInt 16 (a.toNat : Int) ^^^ BitVec.ofInt 16 (b.toNat : Int)).toNat : Int) = _
  rw [of_toNat16, of_toNat16, wrapN]
theorem msb16 (a : BitVec 16) : ((32768 : Int) ≤ (a.toNat : Int)) = (a.msb = true) := by
  rw [BitVec.msb_eq_decide]
  apply propext
  simp
  omega
def Sn : Nat → BitVec 16 → BitVec 16
  | 0, x => x
  | n + 1, x => S (Sn n x)
theorem crcF_snoc {v : BitVec 16} {l : List Int} {k : Nat} (h : k < l.length) : crcF v ((l.take (k + 1)).map bv) = stp (crcF v ((l.take k).map bv)) (bv l[k]) := by
  rw [List.take_succ_eq_append_getElem h, List.map_append, crcF_append]; rfl
theorem crcF_flat {v : BitVec 16} {l : List (List Int)} {k : Nat} (h : k < l.length) : crcF v (((l.take (k + 1)).flatten).map bv) = crcF (crcF v (((l.take k).flatten).map bv)) (l[k].map bv) := by
  rw [List.take_succ_eq_append_getElem h, List.flatten_append, List.map_append, crcF_append]; simp
theorem bits8 : IntKind.u8.bits = 8 := rfl
theorem bits16 : IntKind.u16.bits = 16 := rfl
theorem bits32 : IntKind.u32.bits = 32 := rfl
theorem bits64 : IntKind.i64.bits = 64 := rfl
def CrcAt (ls : List (List Int)) (k : Nat) (v : BitVec 16) : Prop := v = crcF 65535#16 (((ls.take k).flatten).map bv)
theorem CrcAt.step {ls : List (List Int)} {k : Nat} {v u : BitVec 16} (c : CrcAt ls k v) (hk : k < ls.length) (hu : u = crcF v (ls[k].map bv)) : CrcAt ls (k + 1) u := by
  unfold CrcAt at c ⊢; rw [crcF_flat hk, ← c, hu]
theorem CrcAt.done {ls : List (List Int)} {v : BitVec 16} (c : CrcAt ls ls.length v) : v = crc ls.flatten := by
  unfold CrcAt at c; rw [c, List.take_length]; rfl
theorem sum_fn (ls : List (List Int)) (hl : ls.length ≤ 1000) (hll : ∀ l ∈ ls, l.length ≤ 1000 ∧ ∀ c ∈ l, 0 ≤ c ∧ c ≤ 255) : Am.Fn Try.prog 30 [0] [.slc (ls.map BL)] (W (crc ls.flatten)) := by
  refine fn_introX mixed (X := X30) c30 1 (by simp [X30]) fun Q hR hN => ?_
  simp [X30]
  refine loopX (fun (p : Nat × BitVec 16) vs h' => p.1 ≤ ls.length ∧ CrcAt ls p.1 p.2 ∧ vs = [.undef, .undef, W p.2, .undef, .undef, .undef, .slc (ls.map BL), I ls.length, I p.1, .undef, .undef, .undef, .undef, .undef, .undef, .undef, .undef] ∧ h' = [dd]) (fun p => ls.length - p.1) (0, 65535#16) ?_ ?_
  · simp [CrcAt, crcF]
  · rintro ⟨k, v⟩ vs h' ⟨g1, g2, rfl, rfl⟩ Q' hK hX hR'
    dsimp only at g1 g2
    by_cases hk : k < ls.length
    · obtain ⟨l1, l2⟩ := hll _ (List.getElem_mem hk)
      have hw1 : IntKind.i64.wrap ((k : Int) + 1) = ((k + 1 : Nat) : Int) := wrap_ok (by omega) (by omega)
      simp [hk]
      refine loopX (fun (p : Nat × BitVec 16) vs h' => p.1 ≤ ls[k].length ∧ p.2 = crcF v ((ls[k].take p.1).map bv) ∧ vs = [.undef, .undef, W p.2, .undef, .undef, .undef, .slc (ls.map BL), I ls.length, I k, .undef, BL ls[k], I ls[k].length, I p.1, .undef, .undef, .undef, .undef] ∧ h' = [dd]) (fun p => ls[k].length - p.1) (0, v) ?_ ?_
      · simp [crcF]
      · rintro ⟨j, u⟩ vs h' ⟨f1, f2, rfl, rfl⟩ Q2 hK2 hX2 hR2
        dsimp only at f1 f2
        by_cases hj : j < ls[k].length
        · obtain ⟨b1, b2⟩ := l2 _ (List.getElem_mem hj)
          have hw2 : IntKind.i64.wrap ((j : Int) + 1) = ((j + 1 : Nat) : Int) := wrap_ok (by omega) (by omega)
          obtain ⟨x, hx⟩ : ∃ x : BitVec 16, u ^^^ ((bv ls[k][j]).setWidth 16 <<< (8 : Nat)) = x := ⟨_, rfl⟩
          have hs8 : xorI .u16 (u.toNat : Int) (IntKind.u16.wrap (IntKind.u16.wrap ls[k][j] * 256)) = (x.toNat : Int) := by
            rw [shl8 b1 b2, xorI16, hx]
          simp [hj, bits16, hs8]
          refine loopX (fun (p : Nat × BitVec 16) vs h' => p.1 ≤ 8 ∧ p.2 = Sn p.1 x ∧ vs = [.undef, .undef, W p.2, .undef, .undef, .undef, .slc (ls.map BL), I ls.length, I k, .undef, BL ls[k], I ls[k].length, I j, .undef, I p.1, .undef, .undef] ∧ h' = [dd]) (fun p => 8 - p.1) (0, x) ?_ ?_
          · simp [Sn]
          · rintro ⟨i, y⟩ vs h' ⟨e1, e2, rfl, rfl⟩ Q3 hK3 hX3 hR3
            dsimp only at e1 e2
            by_cases hi : i < 8
            · have hi' : (i : Int) < 8 := by omega
              have hw3 : IntKind.i64.wrap ((i : Int) + 1) = ((i + 1 : Nat) : Int) := wrap_ok (by omega) (by omega)
              obtain ⟨z, hz⟩ : ∃ z : BitVec 16, z = y <<< 1 := ⟨_, rfl⟩
              have hs1 : IntKind.u16.wrap ((y.toNat : Int) * 2) = (z.toNat : Int) := by rw [hz]; exact shl1 y
              have hm := msb16 y
              cases hy : y.msb with
              | true =>
                rw [hy] at hm
                obtain ⟨t, ht⟩ : ∃ t : BitVec 16, z ^^^ 4129#16 = t := ⟨_, rfl⟩
                have hxt : xorI .u16 (z.toNat : Int) 4129 = (t.toNat : Int) := by
                  rw [← ht, ← xorI16]; rfl
                have hS : Sn (i + 1) x = t := by rw [Sn, ← e2, S, hy, ← ht, hz]; rfl
                simp [hi', hm, bits16, hs1, hw3, hxt]
                refine hK3 (i + 1, t) _ _ (by dsimp only; omega) ?_
                simp [hS]
                omega
              | false =>
                rw [hy] at hm
                have hS : Sn (i + 1) x = z := by rw [Sn, ← e2, S, hy, hz]; simp
                simp [hi', hm, bits16, hs1, hw3]
                refine hK3 (i + 1, z) _ _ (by dsimp only; omega) ?_
                simp [hS]
                omega
            · obtain rfl : i = 8 := by omega
              simp
              refine hX3 _ _ _ ?_
              simp [hw2]
              refine hK2 (j + 1, y) _ _ (by dsimp only; omega) ?_
              have : y = crcF v ((ls[k].take (j + 1)).map bv) := by
                rw [crcF_snoc hj, ← f2, e2, ← hx]; rfl
              rw [List.map_take] at this
              simp [this]
              omega
        · obtain rfl : j = ls[k].length := by omega
          simp
          refine hX2 _ _ _ ?_
          simp [hw1]
          refine hK (k + 1, u) _ _ (by dsimp only; omega) ?_
          rw [List.take_length] at f2
          simp [g2.step hk f2]
          omega
    · obtain rfl : k = ls.length := by omega
      simp
      refine hX _ _ _ ?_
      simp
      refine hR _ _ ?_
      simp [X30, g2.done]
end Go.Proofs.Ytkfjnbljegoomaa.J
