/-
  Chapter 28: records encoded.
-/
import Derived.Test.YtkfjnbljegoomaaQJeA
namespace Go.Proofs.Ytkfjnbljegoomaa.J
set_option linter.unusedSimpArgs false
set_option linter.unusedVariables false
set_option linter.unusedSectionVars false
open Go.Proofs.Ytkfjnbljegoomaa.Am
set_option maxHeartbeats 8000000
theorem hi_eq (v : BitVec 16) : IntKind.u8.wrap ((v.toNat : Int).fdiv 256) = hiB v := by
  rw [u8_eq, Int.fdiv_eq_ediv_of_nonneg _ (by omega)]
  unfold hiB hi
  rw [BitVec.toNat_setWidth, BitVec.toNat_ushiftRight, Nat.shiftRight_eq_div_pow]
  omega
theorem lo_eq (v : BitVec 16) : IntKind.u8.wrap (v.toNat : Int) = loB v := by
  rw [u8_eq]
  unfold loB lo
  rw [BitVec.toNat_setWidth]
  omega
theorem encode_fn (i : Nat) (r : Rec) (hi0 : i < 1000000) (hr : okR r) : Am.Fn Try.prog 23 [0, 0, 0, 0, 0, 0, 0, 0, 0, 0, 0] [I i, RC r] (.agg ((enc i r).map U)) := by
  obtain ⟨k, a, b⟩ := r
  obtain ⟨h1, h2, h3⟩ := hr
  dsimp only at h1 h2 h3
  have c1 := bytes4_fn i (by omega) (by omega)
  have c2 := bytes4_fn a (by omega) (by omega)
  have c3 := bytes4_fn b (by omega) (by omega)
  have r1 := b4_range i
  have r2 := b4_range a
  have r3 := b4_range b
  have hE : enc i ⟨k, a, b⟩ = (k :: (b4 a ++ b4 b)) ++ [hiB (crc (b4 i ++ k :: (b4 a ++ b4 b))), loB (crc (b4 i ++ k :: (b4 a ++ b4 b)))] := rfl
  rw [hE]
  obtain ⟨i0, i1, i2, i3, ei⟩ : ∃ x0 x1 x2 x3, b4 i = [x0, x1, x2, x3] := ⟨_, _, _, _, rfl⟩
  obtain ⟨a0, a1, a2, a3, ea⟩ : ∃ x0 x1 x2 x3, b4 a = [x0, x1, x2, x3] := ⟨_, _, _, _, rfl⟩
  obtain ⟨b0, b1, b2, b3, eb⟩ : ∃ x0 x1 x2 x3, b4 b = [x0, x1, x2, x3] := ⟨_, _, _, _, rfl⟩
  rw [ei] at c1 r1
  rw [ea] at c2 r2
  rw [eb] at c3 r3
  rw [ei, ea, eb]
  have hk : IntKind.u8.wrap k = k := by rw [u8_eq]; omega
  have hS := sum_fn [[i0, i1, i2, i3], [k, a0, a1, a2, a3, b0, b1, b2, b3]] (by simp) (by
    intro l hl
    simp only [List.mem_cons, List.not_mem_nil, or_false] at hl
    rcases hl with rfl | rfl
    · exact ⟨by simp, r1⟩
    · refine ⟨by simp, fun c hc => ?_⟩
      rcases List.mem_cons.1 hc with rfl | hc
      · omega
      · rcases List.mem_append.1 (show c ∈ [a0, a1, a2, a3] ++ [b0, b1, b2, b3] from hc) with hc | hc
        · exact r2 c hc
        · exact r3 c hc)
  have e1 : [[i0, i1, i2, i3], [k, a0, a1, a2, a3, b0, b1, b2, b3]].flatten = [i0, i1, i2, i3] ++ k :: ([a0, a1, a2, a3] ++ [b0, b1, b2, b3]) := rfl
  rw [e1] at hS
  generalize crc ([i0, i1, i2, i3] ++ k :: ([a0, a1, a2, a3] ++ [b0, b1, b2, b3])) = v at hS
  have q1 := hi_eq v
  have q2 := lo_eq v
  refine fn_introX mixed (X := X23) c23 6 (by simp [X23]) fun Q hR hN => ?_
  simp [X23]
  refine call_of c1 ?_
  simp
  refine call_of c2 ?_
  simp
  refine call_of c3 ?_
  simp [hk]
  refine call_of hS ?_
  simp [bits16, q1, q2]
  refine hR _ _ ?_
  simp [X23]
theorem ap4 (l : List Int) (n : Int) : List.map U l ++ [U (n / 16777216 % 256), U (n / 65536 % 256), U (n / 256 % 256), U (n % 256)] = (l ++ b4 n).map U := by simp [b4]
theorem number_fi1 (l : List Int) (n : Int) (hl : l.length ≤ 100) (h0 : 0 ≤ n) (r0 r2 r3 r4 r5 r6 r7 r9 : Row) (g v : Nat) : FI Try.prog (.fn (.func 25) [] []) [.own 1 1 l.length 1 0 l.length, I n] [r0, (1, .arr 1 v false (l.map U)), r2, r3, r4, r5, r6, r7, (g, .dead), r9]
    (.own 1 1 (l.length + 4) 1 0 (l.length + 4)) [(8, (g + 1, .dead)), (1, (1, .arr 1 v false ((l ++ b4 n).map U)))] := by
  have e1 : n.fdiv 16777216 = n / 16777216 := fd 16777216 h0
  have e2 : n.fdiv 65536 = n / 65536 := fd 65536 h0
  have e3 : n.fdiv 256 = n / 256 := fd 256 h0
  have c1 : l.length + 4 ≤ 140737488355328 := by omega
  refine fn_introXI mixed (X := X25) c25 (by simp [X25]) (by simp) fun Q hR hN => ?_
  simp [X25, bits64, e1, e2, e3, u8_eq, c1]
  refine hR _ _ ?_
  simp [X25, finI, ap4]
theorem number_fi4 (l : List Int) (n : Int) (hl : l.length ≤ 100) (h0 : 0 ≤ n) (r0 r1 r2 r3 r5 r6 r7 r9 : Row) (g v : Nat) : FI Try.prog (.fn (.func 25) [] []) [.own 4 1 l.length 1 0 l.length, I n] [r0, r1, r2, r3, (1, .arr 1 v false (l.map U)), r5, r6, r7, (g, .dead), r9]
    (.own 4 1 (l.length + 4) 1 0 (l.length + 4)) [(8, (g + 1, .dead)), (4, (1, .arr 1 v false ((l ++ b4 n).map U)))] := by
  have e1 : n.fdiv 16777216 = n / 16777216 := fd 16777216 h0
  have e2 : n.fdiv 65536 = n / 65536 := fd 65536 h0
  have e3 : n.fdiv 256 = n / 256 := fd 256 h0
  have c1 : l.length + 4 ≤ 140737488355328 := by omega
  refine fn_introXI mixed (X := X25) c25 (by simp [X25]) (by simp) fun Q hR hN => ?_
  simp [X25, bits64, e1, e2, e3, u8_eq, c1]
  refine hR _ _ ?_
  simp [X25, finI, ap4]
theorem hi_eq32 (v : BitVec 16) : IntKind.u8.wrap (IntKind.u32.wrap ((v.toNat : Int).tdiv 256)) = hiB v := by
  rw [Int.tdiv_eq_ediv_of_nonneg (by omega), u8_eq, u32_eq]
  unfold hiB hi
  rw [BitVec.toNat_setWidth, BitVec.toNat_ushiftRight, Nat.shiftRight_eq_div_pow]
  have := v.isLt
  omega
theorem Encode_fn (i : Nat) (r : Rec) (hi0 : i < 1000000) (hr : okR r) : Am.Fn Try.prog 18 [1] [RC r, I i] (.uslc ((enc i r).map U)) := by
  obtain ⟨k, a, b⟩ := r
  obtain ⟨h1, h2, h3⟩ := hr
  dsimp only at h1 h2 h3
  have hk : IntKind.u8.wrap k = k := by rw [u8_eq]; omega
  have hE : enc i ⟨k, a, b⟩ = (k :: (b4 a ++ b4 b)) ++ [hiB (crc (b4 i ++ k :: (b4 a ++ b4 b))), loB (crc (b4 i ++ k :: (b4 a ++ b4 b)))] := rfl
  rw [hE]
  have lb : ∀ n, (b4 n).length = 4 := fun n => rfl
  have r1 := b4_range i
  have r2 := b4_range a
  have r3 := b4_range b
  have hC := check_fn (b4 i ++ k :: (b4 a ++ b4 b)) (by simp [lb]) (fun c hc => by
    rcases List.mem_append.1 hc with hc | hc
    · exact r1 c hc
    · rcases List.mem_cons.1 hc with rfl | hc
      · omega
      · rcases List.mem_append.1 hc with hc | hc
        · exact r2 c hc
        · exact r3 c hc)
  obtain ⟨i0, i1, i2, i3, ei⟩ : ∃ x0 x1 x2 x3, b4 i = [x0, x1, x2, x3] := ⟨_, _, _, _, rfl⟩
  obtain ⟨a0, a1, a2, a3, ea⟩ : ∃ x0 x1 x2 x3, b4 a = [x0, x1, x2, x3] := ⟨_, _, _, _, rfl⟩
  obtain ⟨b0, b1, b2, b3, eb⟩ : ∃ x0 x1 x2 x3, b4 b = [x0, x1, x2, x3] := ⟨_, _, _, _, rfl⟩
  rw [ei, ea, eb] at hC
  rw [ei, ea, eb]
  generalize crc ([i0, i1, i2, i3] ++ k :: ([a0, a1, a2, a3] ++ [b0, b1, b2, b3])) = v at hC
  have q1 := hi_eq32 v
  have q2 := lo_eq v
  refine fn_introX mixed (X := X18) c18 10 (by simp [X18]) fun Q hR hN => ?_
  simp [X18, hk]
  refine callv_of (number_fi1 [k] a (by simp) h2.1 _ _ _ _ _ _ _ _ _ _) ?_
  simp [ea]
  refine callv_of (number_fi1 [k, a0, a1, a2, a3] b (by simp) h3.1 _ _ _ _ _ _ _ _ _ _) ?_
  simp [eb]
  refine callv_of (number_fi4 [] i (by simp) (by omega) _ _ _ _ _ _ _ _ _ _) ?_
  simp [ei]
  refine call_of hC ?_
  have q3 : IntKind.u8.wrap (IntKind.u32.wrap ((v.toNat : Int) / 256)) = hiB v := by rw [← q1, Int.tdiv_eq_ediv_of_nonneg (by omega)]
  simp [q1, q2, q3]
  refine hR _ _ ?_
  simp [X18]
end Go.Proofs.Ytkfjnbljegoomaa.J
