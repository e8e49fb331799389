/-
  Chapter 28, plain: records and journals.
-/
import Derived.Test.YtkfjnbljegoomaaQJaP
namespace Go.Proofs.Ytkfjnbljegoomaa.J
set_option linter.unusedSimpArgs false
set_option linter.unusedVariables false
set_option linter.unusedSectionVars false
structure Rec where
  kind : Int
  a : Int
  b : Int
  deriving DecidableEq
def okR (r : Rec) : Prop := (1 ≤ r.kind ∧ r.kind ≤ 5) ∧ (0 ≤ r.a ∧ r.a < 2147483648) ∧ (0 ≤ r.b ∧ r.b < 2147483648)
instance (r : Rec) : Decidable (okR r) := by unfold okR; infer_instance
def b4 (n : Int) : List Int := [n / 16777216 % 256, n / 65536 % 256, n / 256 % 256, n % 256]
def bv (n : Int) : BitVec 8 := BitVec.ofInt 8 n
def crc (l : List Int) : BitVec 16 := crcF 65535#16 (l.map bv)
def body (r : Rec) : List Int := r.kind :: (b4 r.a ++ b4 r.b)
def hiB (v : BitVec 16) : Int := ((hi v).toNat : Int)
def loB (v : BitVec 16) : Int := ((lo v).toNat : Int)
def enc (i : Nat) (r : Rec) : List Int := body r ++ [hiB (crc (b4 i ++ body r)), loB (crc (b4 i ++ body r))]
def num4 (l : List Int) : Int := l.foldl (fun n c => n * 256 + c) 0
def recOf (p : List Int) : Rec := ⟨p.getD 0 0, num4 ((p.drop 1).take 4), num4 ((p.drop 5).take 4)⟩
def dec (i : Nat) (p : List Int) : Option Rec := if okR (recOf p) ∧ enc i (recOf p) = p then some (recOf p) else none
def rdF : Nat → Nat → List Int → List Rec
  | 0, _, _ => []
  | f + 1, i, b => if 11 ≤ b.length then (match dec i (b.take 11) with
    | some r => r :: rdF f (i + 1) (b.drop 11)
    | none => []) else []
def rd (i : Nat) (b : List Int) : List Rec := rdF b.length i b
def encs : Nat → List Rec → List Int
  | _, [] => []
  | i, r :: l => enc i r ++ encs (i + 1) l
theorem enc_len (i : Nat) (r : Rec) : (enc i r).length = 11 := by simp [enc, body, b4]
theorem encs_len : ∀ (l : List Rec) (i : Nat), (encs i l).length = 11 * l.length
  | [], i => rfl
  | r :: l, i => by simp only [encs, List.length_append, enc_len, encs_len l, List.length_cons]; omega
theorem encs_append : ∀ (l m : List Rec) (i : Nat), encs i (l ++ m) = encs i l ++ encs (i + l.length) m
  | [], m, i => by simp [encs]
  | r :: l, m, i => by
    simp only [List.cons_append, encs, encs_append l m (i + 1), List.append_assoc, List.length_cons]
    rw [show i + 1 + l.length = i + (l.length + 1) by omega]
theorem rdF_fuel : ∀ (f f' i : Nat) (b : List Int), b.length ≤ f → b.length ≤ f' → rdF f i b = rdF f' i b
  | 0, 0, _, _, _, _ => rfl
  | 0, f' + 1, i, b, h1, h2 => by
    unfold rdF; rw [if_neg (by omega)]
  | f + 1, 0, i, b, h1, h2 => by
    unfold rdF; rw [if_neg (by omega)]
  | f + 1, f' + 1, i, b, h1, h2 => by
    unfold rdF
    split
    · split
      · rw [rdF_fuel f f' (i + 1) (b.drop 11) (by simp; omega) (by simp; omega)]
      · rfl
    · rfl
theorem rd_eq (i : Nat) (b : List Int) : rd i b = if 11 ≤ b.length then (match dec i (b.take 11) with
    | some r => r :: rd (i + 1) (b.drop 11)
    | none => []) else [] := by
  by_cases h : 11 ≤ b.length
  · rw [if_pos h]
    have e : rd i b = rdF (b.length + 1) i b := rdF_fuel _ _ _ _ (Nat.le_refl _) (by omega)
    rw [e]
    unfold rdF
    rw [if_pos h]
    split
    · rename_i r hr
      rw [rdF_fuel b.length (b.drop 11).length (i + 1) (b.drop 11) (by simp) (Nat.le_refl _)]; rfl
    · rfl
  · rw [if_neg h]
    unfold rd
    cases hb : b.length with
    | zero => rfl
    | succ n => unfold rdF; rw [if_neg h]
theorem rd_short {i : Nat} {b : List Int} (h : b.length < 11) : rd i b = [] := by rw [rd_eq, if_neg (by omega)]
theorem num_b4 {n : Int} (h0 : 0 ≤ n) (h1 : n < 4294967296) : num4 (b4 n) = n := by
  simp only [num4, b4, List.foldl_cons, List.foldl_nil]
  omega
theorem recOf_enc {i : Nat} {r : Rec} (h : okR r) : recOf (enc i r) = r := by
  obtain ⟨k, a, b⟩ := r
  obtain ⟨_, h2, h3⟩ := h
  dsimp only at h2 h3
  have e1 : ((enc i ⟨k, a, b⟩).drop 1).take 4 = b4 a := by simp [enc, body, b4]
  have e2 : ((enc i ⟨k, a, b⟩).drop 5).take 4 = b4 b := by simp [enc, body, b4]
  unfold recOf
  rw [e1, e2, num_b4 h2.1 (by omega), num_b4 h3.1 (by omega)]
  simp [enc, body]
theorem dec_enc {i : Nat} {r : Rec} (h : okR r) : dec i (enc i r) = some r := by
  unfold dec
  rw [recOf_enc h, if_pos ⟨h, rfl⟩]
theorem dec_some {i : Nat} {p : List Int} {r : Rec} (h : dec i p = some r) : okR r ∧ enc i r = p := by
  unfold dec at h
  split at h
  · rename_i hc; cases h; exact hc
  · cases h
theorem rd_encs : ∀ (m : List Rec) (i : Nat) (rest : List Int), (∀ r ∈ m, okR r) → rd i (encs i m ++ rest) = m ++ rd (i + m.length) rest
  | [], i, rest, _ => by simp [encs]
  | r :: m, i, rest, h => by
    have hr := h r (List.mem_cons_self ..)
    have ih := rd_encs m (i + 1) rest fun r hr => h r (List.mem_cons_of_mem _ hr)
    rw [rd_eq, if_pos (by simp [encs, enc_len])]
    have e1 : (encs i (r :: m) ++ rest).take 11 = enc i r := by
      simp only [encs, List.append_assoc]
      rw [← enc_len i r, List.take_left]
    have e2 : (encs i (r :: m) ++ rest).drop 11 = encs (i + 1) m ++ rest := by
      simp only [encs, List.append_assoc]
      rw [← enc_len i r, List.drop_left]
    rw [e1, e2, dec_enc hr]
    simp only [ih, List.cons_append, List.length_cons]
    rw [show i + 1 + m.length = i + (m.length + 1) by omega]
theorem rd_all {l : List Rec} (h : ∀ r ∈ l, okR r) (i : Nat) : rd i (encs i l) = l := by
  have := rd_encs l i [] h
  rw [List.append_nil, rd_short (b := []) (by simp), List.append_nil] at this
  exact this
/-- what is read, and what is left -/
theorem rd_split : ∀ (f : Nat) (i : Nat) (b : List Int), b.length ≤ f → (∀ r ∈ rd i b, okR r) ∧ b = encs i (rd i b) ++ b.drop (11 * (rd i b).length) ∧ 11 * (rd i b).length ≤ b.length
  | 0, i, b, hf => by
    rw [rd_short (by omega)]
    simp [encs]
  | f + 1, i, b, hf => by
    rw [rd_eq]
    split
    · rename_i h11
      cases hd : dec i (b.take 11) with
      | none => simp [encs]
      | some r =>
        obtain ⟨h1, h2⟩ := dec_some hd
        obtain ⟨i1, i2, i3⟩ := rd_split f (i + 1) (b.drop 11) (by simp; omega)
        simp only
        refine ⟨fun x hx => ?_, ?_, ?_⟩
        · rcases List.mem_cons.1 hx with rfl | hx
          · exact h1
          · exact i1 x hx
        · simp only [encs, List.length_cons, h2, List.append_assoc]
          rw [show 11 * ((rd (i + 1) (b.drop 11)).length + 1) = 11 + 11 * (rd (i + 1) (b.drop 11)).length by omega, ← List.drop_drop, ← i2, List.take_append_drop]
        · simp only [List.length_cons, List.length_drop] at i3 ⊢; omega
    · simp [encs]
theorem rd_len (i : Nat) (b : List Int) : 11 * (rd i b).length ≤ b.length := (rd_split _ i b (Nat.le_refl _)).2.2
theorem rd_ok (i : Nat) (b : List Int) : ∀ r ∈ rd i b, okR r := (rd_split _ i b (Nat.le_refl _)).1
theorem rd_take (i : Nat) (b : List Int) : b.take (11 * (rd i b).length) = encs i (rd i b) := by
  obtain ⟨_, h2, h3⟩ := rd_split _ i b (Nat.le_refl _)
  generalize rd i b = m at h2 h3
  have h4 := encs_len m i
  have h5 := congrArg (List.take (11 * m.length)) h2
  rw [h5, ← h4, List.take_left]
/-! cut off -/
theorem encs_cut (l : List Rec) (i : Nat) (j : Nat) (hj : j ≤ l.length) : encs i l = encs i (l.take j) ++ encs (i + j) (l.drop j) := by
  conv => lhs; rw [← List.take_append_drop j l]
  rw [encs_append, List.length_take, Nat.min_eq_left hj]
theorem rd_cut {l : List Rec} (h : ∀ r ∈ l, okR r) (k : Nat) (hk : k ≤ 11 * l.length) : rd 0 ((encs 0 l).take k) = l.take (k / 11) := by
  have hj : k / 11 ≤ l.length := by omega
  have hl : (encs 0 (l.take (k / 11))).length = 11 * (k / 11) := by rw [encs_len, List.length_take, Nat.min_eq_left hj]
  have e : (encs 0 l).take k = encs 0 (l.take (k / 11)) ++ (encs (0 + k / 11) (l.drop (k / 11))).take (k % 11) := by
    rw [encs_cut l 0 (k / 11) hj, List.take_append, hl]
    rw [List.take_of_length_le (by rw [hl]; omega), show k - 11 * (k / 11) = k % 11 by omega]
  rw [e, rd_encs _ _ _ fun r hr => h r (List.mem_of_mem_take hr), rd_short (by simp; omega), List.append_nil]
/-! damage -/
theorem bv_toNat (x : BitVec 8) : bv (x.toNat : Int) = x := by
  unfold bv
  apply BitVec.eq_of_toNat_eq
  rw [BitVec.toNat_ofInt]
  have := x.isLt
  omega
theorem bv_inj {a b : Int} (ha : 0 ≤ a ∧ a ≤ 255) (hb : 0 ≤ b ∧ b ≤ 255) (h : bv a = bv b) : a = b := by
  unfold bv at h
  have := congrArg BitVec.toNat h
  rw [BitVec.toNat_ofInt, BitVec.toNat_ofInt] at this
  omega
theorem enc_residue (i : Nat) (r : Rec) : crcF 65535#16 ((b4 i ++ enc i r).map bv) = 0#16 := by
  unfold enc
  rw [← List.append_assoc, List.map_append, crcF_append]
  show crcF (crc (b4 i ++ body r)) _ = _
  simp only [List.map_cons, List.map_nil, hiB, loB, bv_toNat]
  exact residue _
def xb (a b : Int) : Int := ((bv a ^^^ bv b).toNat : Int)
theorem bv_xb (a b : Int) : bv (xb a b) = bv a ^^^ bv b := bv_toNat _
theorem xb_range (a b : Int) : 0 ≤ xb a b ∧ xb a b ≤ 255 := by
  have := (bv a ^^^ bv b).isLt
  unfold xb; omega
theorem xb_zero {a b : Int} (ha : 0 ≤ a ∧ a ≤ 255) (h : bv b = 0#8) : xb a b = a := by
  refine bv_inj (xb_range a b) ha ?_
  rw [bv_xb, h, BitVec.xor_zero]
theorem b4_range (n : Int) : ∀ x ∈ b4 n, 0 ≤ x ∧ x ≤ 255 := by
  intro x hx
  simp only [b4, List.mem_cons, List.not_mem_nil, or_false] at hx
  omega
theorem enc_range {i : Nat} {r : Rec} (h : okR r) : ∀ x ∈ enc i r, 0 ≤ x ∧ x ≤ 255 := by
  intro x hx
  simp only [enc, body, List.mem_append, List.mem_cons, List.not_mem_nil, or_false] at hx
  rcases hx with (rfl | hx | hx) | rfl | rfl
  · have := h.1; omega
  · exact b4_range _ x hx
  · exact b4_range _ x hx
  · have := (hi (crc (b4 i ++ body r))).isLt; unfold hiB; omega
  · have := (lo (crc (b4 i ++ body r))).isLt; unfold loB; omega
theorem encs_range : ∀ {l : List Rec} (i : Nat), (∀ r ∈ l, okR r) → ∀ x ∈ encs i l, 0 ≤ x ∧ x ≤ 255
  | [], i, _, x, hx => by simp [encs] at hx
  | r :: l, i, h, x, hx => by
    rcases List.mem_append.1 hx with hx | hx
    · exact enc_range (h r (List.mem_cons_self ..)) x hx
    · exact encs_range (i + 1) (fun r hr => h r (List.mem_cons_of_mem _ hr)) x hx
/-- a record's bytes, two neighbours of them changed -/
theorem dec_burst {i : Nat} {r : Rec} {A B : List Int} {x y d e : Int} (hr : okR r) (h : enc i r = A ++ x :: y :: B) (hc : dec i (A ++ xb x d :: xb y e :: B) ≠ none) : A ++ xb x d :: xb y e :: B = enc i r := by
  cases hd : dec i (A ++ xb x d :: xb y e :: B) with
  | none => exact absurd hd hc
  | some r' =>
    obtain ⟨h1, h2⟩ := dec_some hd
    have e1 := enc_residue i r
    have e2 := enc_residue i r'
    rw [h] at e1
    rw [h2] at e2
    rw [← List.append_assoc] at e1 e2
    simp only [List.map_append, List.map_cons, bv_xb] at e1 e2
    rw [← List.map_append] at e1 e2
    obtain ⟨z1, z2⟩ := burst e1 e2
    have hx : 0 ≤ x ∧ x ≤ 255 := enc_range hr x (by rw [h]; simp)
    have hy : 0 ≤ y ∧ y ≤ 255 := enc_range hr y (by rw [h]; simp)
    rw [xb_zero hx z1, xb_zero hy z2, h]
/-- a record in another place -/
theorem dec_place {i k : Nat} {r : Rec} (hi : i < 256) (hk : k < 256) (h : i ≠ k) : dec i (enc k r) = none := by
  cases hd : dec i (enc k r) with
  | none => rfl
  | some r' =>
    exfalso
    obtain ⟨h1, h2⟩ := dec_some hd
    have e1 := enc_residue i r'
    have e2 := enc_residue k r
    rw [h2] at e1
    have b1 : ∀ n : Nat, n < 256 → b4 (n : Int) = [0, 0, 0, (n : Int)] := fun n hn => by
      simp only [b4]
      congr 1
      · omega
      · congr 1
        · omega
        · congr 1
          · omega
          · congr 1; omega
    rw [b1 i hi] at e1
    rw [b1 k hk] at e2
    have e1' : crcF 65535#16 ([bv 0, bv 0] ++ bv 0 :: bv i :: (enc k r).map bv) = 0#16 := by simpa using e1
    have e2' : crcF 65535#16 ([bv 0, bv 0] ++ (bv 0 ^^^ 0#8) :: (bv i ^^^ (bv i ^^^ bv k)) :: (enc k r).map bv) = 0#16 := by
      rw [BitVec.xor_zero, ← BitVec.xor_assoc, BitVec.xor_self, BitVec.zero_xor]; simpa using e2
    obtain ⟨_, z⟩ := burst e1' e2'
    have : bv i = bv k := by
      have := congrArg (fun t => t ^^^ bv k) z
      simpa [BitVec.xor_assoc] using this
    have := bv_inj (by omega) (by omega) this
    omega
end Go.Proofs.Ytkfjnbljegoomaa.J
