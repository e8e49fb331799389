/-
  Chapter 28: the check sum of the reference, bit by bit.
-/
import Derived.Test.YtkfjnbljegoomaaQJcA
namespace Go.Proofs.Ytkfjnbljegoomaa.J
set_option linter.unusedSimpArgs false
set_option linter.unusedVariables false
set_option linter.unusedSectionVars false
open Go.Proofs.Ytkfjnbljegoomaa.Am
set_option maxHeartbeats 4000000
def b2i (b : Bool) : Int := if b then 1 else 0
theorem R1_eq (v : BitVec 16) (b : Bool) : R1 v b = (v <<< 1) ^^^ (if (v.msb ^^ b) then 4129#16 else 0#16) := by
  unfold R1 S
  rw [BitVec.msb_xor, BitVec.shiftLeft_xor_distrib]
  have h1 : (32768#16).msb = true := by decide
  have h2 : (32768#16) <<< 1 = 0#16 := by decide
  cases b <;> cases v.msb <;> simp [h1, h2]
theorem quo_msb (v : BitVec 16) : IntKind.u32.wrap ((v.toNat : Int).tdiv 32768) = b2i v.msb := by
  rw [Int.tdiv_eq_ediv_of_nonneg (by omega), u32_eq, BitVec.msb_eq_decide]
  have := v.isLt
  unfold b2i
  split
  · rename_i h; simp at h; omega
  · rename_i h; simp at h; omega
theorem bit_and {c : Int} (h0 : 0 ≤ c) (h1 : c ≤ 255) (n : Nat) (hn : n < 8) : andI .u8 (c.fdiv (2 ^ n)) 1 = b2i ((bv c).getLsbD n) := by
  show IntKind.u8.wrap ((BitVec.ofInt 8 (c.fdiv (2 ^ n)) &&& 1#8).toNat : Int) = _
  rw [Int.fdiv_eq_ediv_of_nonneg _ (Int.pow_nonneg (by omega))]
  have e : BitVec.ofInt 8 (c / 2 ^ n) = (bv c) >>> n := by
    apply BitVec.eq_of_toNat_eq
    rw [BitVec.toNat_ofInt, BitVec.toNat_ushiftRight, Nat.shiftRight_eq_div_pow]
    unfold bv
    rw [BitVec.toNat_ofInt]
    obtain ⟨m, rfl⟩ : ∃ m : Nat, c = m := ⟨c.toNat, by omega⟩
    have h2 : ((m : Int) / 2 ^ n) = ((m / 2 ^ n : Nat) : Int) := by simp
    have h3 : m / 2 ^ n ≤ m := Nat.div_le_self _ _
    rw [h2]
    have h4 : ((m : Int) % ((2 ^ 8 : Nat) : Int)).toNat = m := by omega
    rw [h4]
    generalize m / 2 ^ n = q at h3
    omega
  rw [e]
  have e2 : ((bv c) >>> n &&& 1#8) = if (bv c).getLsbD n then 1#8 else 0#8 := by
    apply BitVec.eq_of_getLsbD_eq
    intro i hi
    rw [BitVec.getLsbD_and, BitVec.getLsbD_ushiftRight]
    by_cases hi0 : i = 0
    · subst hi0
      cases (bv c).getLsbD n <;> simp_all
    · have : (1#8).getLsbD i = false := by
        have : i = 1 ∨ i = 2 ∨ i = 3 ∨ i = 4 ∨ i = 5 ∨ i = 6 ∨ i = 7 := by omega
        rcases this with rfl | rfl | rfl | rfl | rfl | rfl | rfl <;> decide
      rw [this, Bool.and_false]
      split
      · exact this.symm
      · simp
  rw [e2]
  unfold b2i
  split <;> rfl
theorem conv_b2i (b : Bool) : IntKind.u32.wrap (b2i b) = b2i b := by cases b <;> rfl
theorem xor_b2i (a b : Bool) : xorI .u32 (b2i a) (b2i b) = b2i (a ^^ b) := by cases a <;> cases b <;> rfl
theorem mul_rem (v : BitVec 16) : (IntKind.u32.wrap (2 * (v.toNat : Int))).tmod 65536 = ((v <<< 1).toNat : Int) := by
  have := v.isLt
  rw [u32_eq, Int.tmod_eq_emod_of_nonneg (by omega), BitVec.toNat_shiftLeft, Nat.shiftLeft_eq]
  omega
theorem mul_rem' (v : BitVec 16) : (IntKind.u32.wrap (2 * (v.toNat : Int))) % 65536 = ((v <<< 1).toNat : Int) := by
  have := v.isLt
  rw [u32_eq, BitVec.toNat_shiftLeft, Nat.shiftLeft_eq]
  omega
theorem xorI32 (z : BitVec 16) : xorI .u32 (z.toNat : Int) 4129 = ((z ^^^ 4129#16).toNat : Int) := by
  show IntKind.u32.wrap ((BitVec.ofInt 32 (z.toNat : Int) ^^^ BitVec.ofInt 32 4129).toNat : Int) = _
  have e : (BitVec.ofInt 32 (z.toNat : Int) ^^^ BitVec.ofInt 32 4129) = (z ^^^ 4129#16).setWidth 32 := by
    rw [BitVec.setWidth_xor]
    congr 1
    apply BitVec.eq_of_toNat_eq
    rw [BitVec.toNat_ofInt, BitVec.toNat_setWidth]
    have := z.isLt
    omega
  rw [e, BitVec.toNat_setWidth, u32_eq]
  have := (z ^^^ 4129#16).isLt
  omega
abbrev W32 (v : BitVec 16) : PV := .int .u32 (v.toNat : Int)
theorem check_fn (l : List Int) (hl : l.length ≤ 100000) (hc : ∀ c ∈ l, 0 ≤ c ∧ c ≤ 255) : Am.Fn Try.prog 26 [0] [BL l] (W32 (crc l)) := by
  refine fn_introX mixed (X := X26) c26 1 (by simp [X26]) fun Q hR hN => ?_
  simp [X26]
  refine loopX (fun (p : Nat × BitVec 16) vs h' => p.1 ≤ l.length ∧ p.2 = crcF 65535#16 ((l.take p.1).map bv) ∧ vs = [BL l, .undef, W32 p.2, I p.1, .undef, .undef, .undef, .undef, .undef] ∧ h' = [dd]) (fun p => l.length - p.1) (0, 65535#16) ?_ ?_
  · simp [crcF]
  · rintro ⟨k, v⟩ vs h' ⟨g1, g2, rfl, rfl⟩ Q' hK hX hR'
    dsimp only at g1 g2
    by_cases hk : k < l.length
    · obtain ⟨b1, b2⟩ := hc _ (List.getElem_mem hk)
      have hw1 : IntKind.i64.wrap ((k : Int) + 1) = ((k + 1 : Nat) : Int) := wrap_ok (by omega) (by omega)
      obtain ⟨c, hcc⟩ : ∃ c, c = bv l[k] := ⟨_, rfl⟩
      obtain ⟨T, hT⟩ : ∃ T, bitsG v c 8 = T := ⟨_, rfl⟩
      simp [hk]
      refine loopX (fun (p : Nat × BitVec 16) vs h' => p.1 ≤ 8 ∧ bitsG p.2 c p.1 = T ∧ vs = [BL l, .undef, W32 p.2, I k, I ((p.1 : Int) - 1), .undef, .undef, .undef, .undef] ∧ h' = [dd]) (fun p => p.1) (8, v) ?_ ?_
      · simp [hT]
      · rintro ⟨n, u⟩ vs h' ⟨e1, e2, rfl, rfl⟩ Q2 hK2 hX2 hR2
        dsimp only at e1 e2
        by_cases hn : n = 0
        · subst hn
          simp
          refine hX2 _ _ _ ?_
          simp [hw1]
          refine hK (k + 1, u) _ _ (by dsimp only; omega) ?_
          have : u = crcF 65535#16 ((l.take (k + 1)).map bv) := by
            rw [crcF_snoc hk, ← g2, ← hcc, ← bits_eq, hT, ← e2]; rfl
          rw [List.map_take] at this
          simp [this]
          omega
        · obtain ⟨m, rfl⟩ : ∃ m, n = m + 1 := ⟨n - 1, by omega⟩
          have h1 : ((m + 1 : Nat) : Int) - 1 = (m : Int) := by omega
          have hw2 : IntKind.i64.wrap ((m : Int) - 1) = (m : Int) - 1 := wrap_ok (by omega) (by omega)
          have hmin : min m 8 = m := by omega
          have hb := bit_and b1 b2 m (by omega)
          rw [← hcc] at hb
          simp only [bitsG] at e2
          rw [R1_eq] at e2
          obtain ⟨z, hz⟩ : ∃ z : BitVec 16, u <<< 1 = z := ⟨_, rfl⟩
          have hm1 := mul_rem u
          have hm2 := mul_rem' u
          rw [hz] at e2 hm1 hm2
          have hq := quo_msb u
          have hq2 : IntKind.u32.wrap ((u.toNat : Int) / 32768) = b2i u.msb := by rw [← hq, Int.tdiv_eq_ediv_of_nonneg (by omega)]
          cases hx : (u.msb ^^ c.getLsbD m) with
          | true =>
            rw [hx] at e2
            obtain ⟨t, ht⟩ : ∃ t : BitVec 16, z ^^^ 4129#16 = t := ⟨_, rfl⟩
            have hxt : xorI .u32 (z.toNat : Int) 4129 = (t.toNat : Int) := by rw [xorI32, ht]
            have h1b : b2i true = 1 := rfl
            simp [hk, h1, bits8, hmin, hb, hq, hq2, conv_b2i, xor_b2i, hx, h1b, hm1, hm2, hxt, hw2]
            refine hK2 (m, t) _ _ (by dsimp only; omega) ?_
            rw [if_pos rfl, ht] at e2
            simp [e2]
            omega
          | false =>
            rw [hx] at e2
            have h1b : b2i false = 0 := rfl
            simp [hk, h1, bits8, hmin, hb, hq, hq2, conv_b2i, xor_b2i, hx, h1b, hm1, hm2, hw2]
            refine hK2 (m, z) _ _ (by dsimp only; omega) ?_
            simp at e2
            simp [e2]
            omega
    · obtain rfl : k = l.length := by omega
      rw [List.take_length] at g2
      simp
      refine hX _ _ _ ?_
      simp
      refine hR _ _ ?_
      simp [X26, g2, crc]
end Go.Proofs.Ytkfjnbljegoomaa.J
