/-
  Chapter 28, plain: check sums.
-/
import Derived.KernelRfl
namespace Go.Proofs.Ytkfjnbljegoomaa.J
set_option linter.unusedSimpArgs false
set_option linter.unusedVariables false
set_option linter.unusedSectionVars false
/-- one bit -/
def S (x : BitVec 16) : BitVec 16 := (x <<< 1) ^^^ (if x.msb then 4129#16 else 0#16)
def S8 (x : BitVec 16) : BitVec 16 := S (S (S (S (S (S (S (S x)))))))
/-- one byte -/
def stp (v : BitVec 16) (c : BitVec 8) : BitVec 16 := S8 (v ^^^ (c.setWidth 16 <<< 8))
theorem S_xor (x y : BitVec 16) : S (x ^^^ y) = S x ^^^ S y := by
  unfold S
  rw [BitVec.shiftLeft_xor_distrib, BitVec.msb_xor]
  have h : ∀ a b c d : BitVec 16, (a ^^^ b) ^^^ (c ^^^ d) = (a ^^^ c) ^^^ (b ^^^ d) := fun a b c d => by
    rw [BitVec.xor_assoc, ← BitVec.xor_assoc b, BitVec.xor_comm b c, BitVec.xor_assoc c, ← BitVec.xor_assoc]
  cases x.msb <;> cases y.msb <;> simp [h, BitVec.xor_assoc]
  · rw [BitVec.xor_comm (y <<< 1)]
theorem S_zero : S 0#16 = 0#16 := by decide
theorem S_inj {x : BitVec 16} (h : S x = 0#16) : x = 0#16 := by
  have h0 := congrArg (fun v : BitVec 16 => v.getLsbD 0) h
  have hm : x.msb = false := by
    unfold S at h0
    cases hx : x.msb with
    | false => rfl
    | true => simp [hx] at h0
  unfold S at h
  rw [hm] at h
  simp at h
  apply BitVec.eq_of_toNat_eq
  have h1 := congrArg BitVec.toNat h
  rw [BitVec.msb_eq_decide] at hm
  simp at h1 hm
  rw [Nat.shiftLeft_eq] at h1
  simp
  omega
theorem S8_xor (x y : BitVec 16) : S8 (x ^^^ y) = S8 x ^^^ S8 y := by unfold S8; simp only [S_xor]
theorem S8_zero : S8 0#16 = 0#16 := by decide
theorem S8_inj {x : BitVec 16} (h : S8 x = 0#16) : x = 0#16 := by
  unfold S8 at h
  exact S_inj (S_inj (S_inj (S_inj (S_inj (S_inj (S_inj (S_inj h)))))))
theorem xor4 (a b c d : BitVec 16) : (a ^^^ b) ^^^ (c ^^^ d) = (a ^^^ c) ^^^ (b ^^^ d) := by
  rw [BitVec.xor_assoc, ← BitVec.xor_assoc b, BitVec.xor_comm b c, BitVec.xor_assoc c, ← BitVec.xor_assoc]
theorem stp_xor (v w : BitVec 16) (c d : BitVec 8) : stp (v ^^^ w) (c ^^^ d) = stp v c ^^^ stp w d := by
  unfold stp
  rw [BitVec.setWidth_xor, BitVec.shiftLeft_xor_distrib, xor4, S8_xor]
theorem stp_zero (v : BitVec 16) : stp v 0#8 = S8 v := by unfold stp; simp
def crcF (v : BitVec 16) (l : List (BitVec 8)) : BitVec 16 := l.foldl stp v
theorem crcF_append (v : BitVec 16) (a b : List (BitVec 8)) : crcF v (a ++ b) = crcF (crcF v a) b := List.foldl_append
theorem crcF_xor : ∀ (a b : List (BitVec 8)) (v w : BitVec 16), a.length = b.length → crcF (v ^^^ w) (List.zipWith (· ^^^ ·) a b) = crcF v a ^^^ crcF w b
  | [], [], v, w, _ => rfl
  | c :: a, d :: b, v, w, h => by
    simp only [List.zipWith_cons_cons, crcF, List.foldl_cons]
    rw [stp_xor]
    exact crcF_xor a b _ _ (by simpa using h)
  | [], _ :: _, _, _, h => by simp at h
  | _ :: _, [], _, _, h => by simp at h
theorem crcF_zeros : ∀ (n : Nat) (v : BitVec 16), crcF v (List.replicate n 0#8) = 0#16 → v = 0#16
  | 0, v, h => h
  | n + 1, v, h => by
    rw [List.replicate_succ] at h
    have := crcF_zeros n (stp v 0#8) h
    rw [stp_zero] at this
    exact S8_inj this
theorem crcF_zero0 : ∀ n : Nat, crcF 0#16 (List.replicate n 0#8) = 0#16
  | 0 => rfl
  | n + 1 => by
    rw [List.replicate_succ]
    show crcF (stp 0#16 0#8) _ = _
    rw [stp_zero, S8_zero]; exact crcF_zero0 n
theorem S8_low : ∀ c : BitVec 8, S8 (c.setWidth 16) = c.setWidth 16 <<< 8 := by decide +kernel
theorem two_bytes {v : BitVec 16} (h : stp v (v >>> 8 |>.setWidth 8) = 0#16) : True := trivial
/-- the high and the low byte -/
def hi (v : BitVec 16) : BitVec 8 := (v >>> 8).setWidth 8
def lo (v : BitVec 16) : BitVec 8 := v.setWidth 8
theorem hilo (v : BitVec 16) : v ^^^ ((hi v).setWidth 16 <<< 8) = (lo v).setWidth 16 := by
  apply BitVec.eq_of_getLsbD_eq
  intro i hi'
  simp [hi, lo, BitVec.getLsbD_setWidth, BitVec.getLsbD_shiftLeft, BitVec.getLsbD_ushiftRight]
  by_cases h8 : i < 8
  · simp [h8, hi']
  · have h1 : i - 8 < 8 := by omega
    have h2 : 8 + (i - 8) = i := by omega
    simp [h8, hi', h1, h2]
    omega
/-- with its check sum behind it, the check sum of a message is 0 -/
theorem residue (v : BitVec 16) : crcF v [hi v, lo v] = 0#16 := by
  show stp (stp v (hi v)) (lo v) = 0#16
  have h1 : stp v (hi v) = (lo v).setWidth 16 <<< 8 := by unfold stp; rw [hilo, S8_low]
  rw [h1]; unfold stp; rw [BitVec.xor_self, S8_zero]
/-- two neighbouring bytes changed: the check sum is changed -/
theorem burst {a b : List (BitVec 8)} {d e : BitVec 8} {v : BitVec 16} {x y : BitVec 8} (h1 : crcF v (a ++ x :: y :: b) = 0#16) (h2 : crcF v (a ++ (x ^^^ d) :: (y ^^^ e) :: b) = 0#16) : d = 0#8 ∧ e = 0#8 := by
  have hx := crcF_xor (a ++ x :: y :: b) (a ++ (x ^^^ d) :: (y ^^^ e) :: b) v v (by simp)
  rw [h1, h2, BitVec.xor_self] at hx
  have hz : List.zipWith (· ^^^ ·) (a ++ x :: y :: b) (a ++ (x ^^^ d) :: (y ^^^ e) :: b) = List.replicate a.length 0#8 ++ ([d, e] ++ List.replicate b.length 0#8) := by
    rw [List.zipWith_append (by rfl)]
    have hs : ∀ l : List (BitVec 8), List.zipWith (· ^^^ ·) l l = List.replicate l.length 0#8 := fun l => by
      induction l with
      | nil => rfl
      | cons c l ih => rw [List.zipWith_cons_cons, ih, BitVec.xor_self, List.length_cons, List.replicate_succ]
    rw [hs]
    simp only [List.zipWith_cons_cons, hs]
    have hc : ∀ p q : BitVec 8, p ^^^ (p ^^^ q) = q := fun p q => by rw [← BitVec.xor_assoc, BitVec.xor_self, BitVec.zero_xor]
    rw [hc, hc]; rfl
  rw [hz, crcF_append, crcF_zero0, crcF_append, BitVec.xor_self] at hx
  have h3 := crcF_zeros _ _ hx
  have h4 : stp (stp 0#16 d) e = 0#16 := h3
  unfold stp at h4
  have h5 := S8_inj h4
  rw [BitVec.zero_xor] at h5
  have h6 : S8 (d.setWidth 16 <<< 8) = e.setWidth 16 <<< 8 := by
    have := congrArg (fun t => t ^^^ (e.setWidth 16 <<< 8)) h5
    simp only [BitVec.xor_assoc, BitVec.xor_self, BitVec.xor_zero, BitVec.zero_xor] at this
    exact this
  rw [← S8_low e] at h6
  have h7 : S8 (d.setWidth 16 <<< 8 ^^^ e.setWidth 16) = 0#16 := by rw [S8_xor, h6, BitVec.xor_self]
  have h8 := S8_inj h7
  have key : ∀ i, i < 8 → d.getLsbD i = false ∧ e.getLsbD i = false := fun i hi' => by
    have p1 := congrArg (fun t : BitVec 16 => t.getLsbD i) h8
    have p2 := congrArg (fun t : BitVec 16 => t.getLsbD (i + 8)) h8
    simp [BitVec.getLsbD_setWidth, BitVec.getLsbD_shiftLeft, hi', show i < 16 by omega, show i + 8 < 16 by omega] at p1 p2
    rw [BitVec.getLsbD_eq_getElem hi', BitVec.getLsbD_eq_getElem hi']
    exact ⟨p2, p1⟩
  exact ⟨BitVec.eq_of_getLsbD_eq fun i hi' => by simpa using (key i hi').1, BitVec.eq_of_getLsbD_eq fun i hi' => by simpa using (key i hi').2⟩
/-- bit by bit -/
def R1 (v : BitVec 16) (b : Bool) : BitVec 16 := S (v ^^^ (if b then 32768#16 else 0#16))
def bitsG (v : BitVec 16) (c : BitVec 8) : Nat → BitVec 16
  | 0 => v
  | k + 1 => bitsG (R1 v (c.getLsbD k)) c k
theorem R1_xor (v w : BitVec 16) (a b : Bool) : R1 (v ^^^ w) (a ^^ b) = R1 v a ^^^ R1 w b := by
  unfold R1
  rw [← S_xor, xor4]
  congr 2
  cases a <;> cases b <;> simp
theorem bitsG_xor : ∀ (k : Nat) (v w : BitVec 16) (c d : BitVec 8), bitsG (v ^^^ w) (c ^^^ d) k = bitsG v c k ^^^ bitsG w d k
  | 0, v, w, c, d => rfl
  | k + 1, v, w, c, d => by
    simp only [bitsG, BitVec.getLsbD_xor]
    rw [R1_xor, bitsG_xor k]
theorem bits_zero (v : BitVec 16) : bitsG v 0#8 8 = S8 v := by simp [bitsG, R1, S8]
theorem bits_low : ∀ c : BitVec 8, bitsG 0#16 c 8 = stp 0#16 c := by decide +kernel
theorem bits_eq (v : BitVec 16) (c : BitVec 8) : bitsG v c 8 = stp v c := by
  have h := bitsG_xor 8 v 0#16 0#8 c
  rw [BitVec.xor_zero, BitVec.zero_xor, bits_zero, bits_low] at h
  rw [h, ← stp_zero, ← stp_xor, BitVec.xor_zero, BitVec.zero_xor]
end Go.Proofs.Ytkfjnbljegoomaa.J
