/-
  Chapter 28, plain: damage, places, repair.
-/
import Derived.Test.YtkfjnbljegoomaaQJkA
namespace Go.Proofs.Ytkfjnbljegoomaa.J
set_option linter.unusedSimpArgs false
set_option linter.unusedVariables false
set_option linter.unusedSectionVars false
open Go.Proofs.Ytkfjnbljegoomaa.Am
theorem set_at {α : Type} (A : List α) (x v : α) (B : List α) : (A ++ x :: B).set A.length v = A ++ v :: B := by
  rw [List.set_append_right _ _ (Nat.le_refl _), Nat.sub_self]; rfl
theorem get_at {α : Type} (A : List α) (x : α) (B : List α) (h : A.length < (A ++ x :: B).length) : (A ++ x :: B)[A.length] = x := by simp
theorem part_at {l : List Rec} {j : Nat} (hj : j < l.length) : encs 0 l = encs 0 (l.take j) ++ (enc j l[j] ++ encs (j + 1) (l.drop (j + 1))) := by
  rw [encs_cut l 0 j (by omega), Nat.zero_add, List.drop_eq_getElem_cons hj]; rfl
/-- one record's bytes changed: what is read -/
theorem rd_part {l : List Rec} (h : ∀ r ∈ l, okR r) {j : Nat} (hj : j < l.length) {p c : List Int} (hp : p.length = 11) (hd : dec j p ≠ none → p = enc j l[j]) (hc : c = encs 0 (l.take j) ++ (p ++ encs (j + 1) (l.drop (j + 1)))) : rd 0 c = if c = encs 0 l then l else l.take j := by
  split
  · rename_i he; rw [he, rd_all h]
  · rename_i he
    have hn : dec j p = none := by
      cases hq : dec j p with
      | none => rfl
      | some r =>
        refine absurd ?_ he
        rw [hc, hd (by rw [hq]; exact fun h => by cases h), ← part_at hj]
    have hlt : (l.take j).length = j := by rw [List.length_take, Nat.min_eq_left (by omega)]
    have e2 : (p ++ encs (j + 1) (l.drop (j + 1))).take 11 = p := by rw [← hp, List.take_left]
    rw [hc, rd_encs _ _ _ fun r hr => h r (List.mem_of_mem_take hr), hlt, Nat.zero_add, rd_eq, if_pos (by rw [List.length_append]; omega), e2, hn]
    simp
/-- two neighbouring bytes of one record -/
theorem damage2 {l : List Rec} (h : ∀ r ∈ l, okR r) {i : Nat} (hi : i < 11 * l.length) (hq : i % 11 < 10) (d e : Int) : ∃ A x y B, encs 0 l = A ++ x :: y :: B ∧ A.length = i ∧ rd 0 (A ++ xb x d :: xb y e :: B) = if A ++ xb x d :: xb y e :: B = encs 0 l then l else l.take (i / 11) := by
  have hj : i / 11 < l.length := by omega
  have hP : (encs 0 (l.take (i / 11))).length = 11 * (i / 11) := by rw [encs_len, List.length_take, Nat.min_eq_left (by omega)]
  have hl := enc_len (i / 11) l[i / 11]
  have e0 : enc (i / 11) l[i / 11] = (enc (i / 11) l[i / 11]).take (i % 11) ++ (enc (i / 11) l[i / 11])[i % 11] :: (enc (i / 11) l[i / 11])[i % 11 + 1] :: (enc (i / 11) l[i / 11]).drop (i % 11 + 2) := by
    rw [← List.drop_eq_getElem_cons, ← List.drop_eq_getElem_cons, List.take_append_drop]
  obtain ⟨A, hA⟩ : ∃ A, A = (enc (i / 11) l[i / 11]).take (i % 11) := ⟨_, rfl⟩
  obtain ⟨x, hx⟩ : ∃ x, x = (enc (i / 11) l[i / 11])[i % 11] := ⟨_, rfl⟩
  obtain ⟨y, hy⟩ : ∃ y, y = (enc (i / 11) l[i / 11])[i % 11 + 1] := ⟨_, rfl⟩
  obtain ⟨B, hB⟩ : ∃ B, B = (enc (i / 11) l[i / 11]).drop (i % 11 + 2) := ⟨_, rfl⟩
  rw [← hA, ← hx, ← hy, ← hB] at e0
  have hAl : A.length = i % 11 := by rw [hA, List.length_take]; omega
  refine ⟨encs 0 (l.take (i / 11)) ++ A, x, y, B ++ encs (i / 11 + 1) (l.drop (i / 11 + 1)), ?_, by rw [List.length_append]; omega, ?_⟩
  · rw [part_at hj, e0]; simp
  · refine rd_part h hj (p := A ++ xb x d :: xb y e :: B) ?_ (fun hd => ?_) (by simp)
    · rw [e0] at hl; simpa using hl
    · exact dec_burst (h _ (List.getElem_mem hj)) e0 hd
theorem damage1 {l : List Rec} (h : ∀ r ∈ l, okR r) {i : Nat} (hi : i < 11 * l.length) (hq : ¬ i % 11 < 10) (d : Int) : ∃ A x B, encs 0 l = A ++ x :: B ∧ A.length = i ∧ rd 0 (A ++ xb x d :: B) = if A ++ xb x d :: B = encs 0 l then l else l.take (i / 11) := by
  have hj : i / 11 < l.length := by omega
  have hP : (encs 0 (l.take (i / 11))).length = 11 * (i / 11) := by rw [encs_len, List.length_take, Nat.min_eq_left (by omega)]
  have hl := enc_len (i / 11) l[i / 11]
  have hr := enc_range (i := i / 11) (h _ (List.getElem_mem hj))
  have e0 : enc (i / 11) l[i / 11] = (enc (i / 11) l[i / 11]).take 9 ++ (enc (i / 11) l[i / 11])[9] :: (enc (i / 11) l[i / 11])[9 + 1] :: [] := by
    have : (enc (i / 11) l[i / 11]).drop (9 + 1 + 1) = [] := List.drop_eq_nil_of_le (by omega)
    rw [← this, ← List.drop_eq_getElem_cons, ← List.drop_eq_getElem_cons, List.take_append_drop]
  obtain ⟨A, hA⟩ : ∃ A, A = (enc (i / 11) l[i / 11]).take 9 := ⟨_, rfl⟩
  obtain ⟨x, hx⟩ : ∃ x, x = (enc (i / 11) l[i / 11])[9] := ⟨_, rfl⟩
  obtain ⟨y, hy⟩ : ∃ y, y = (enc (i / 11) l[i / 11])[9 + 1] := ⟨_, rfl⟩
  rw [← hA, ← hx, ← hy] at e0
  have hAl : A.length = 9 := by rw [hA, List.length_take]; omega
  have hx0 : xb x 0 = x := xb_zero (hr x (by rw [e0]; simp)) rfl
  refine ⟨encs 0 (l.take (i / 11)) ++ (A ++ [x]), y, encs (i / 11 + 1) (l.drop (i / 11 + 1)), ?_, by simp; omega, ?_⟩
  · rw [part_at hj, e0]; simp
  · refine rd_part h hj (p := A ++ xb x 0 :: xb y d :: []) ?_ (fun hd => ?_) (by rw [hx0]; simp)
    · rw [e0] at hl; simpa using hl
    · exact dec_burst (h _ (List.getElem_mem hj)) e0 hd
theorem xorI8 {a b : Int} : Am.xorI .u8 a b = xb a b := by
  have h : Am.xorI .u8 a b = IntKind.u8.wrap ((bv a ^^^ bv b).toNat : Int) := rfl
  have := xb_range a b
  rw [h, u8_eq]; unfold xb at *; omega
/-! places -/
theorem chunk (n : Nat) {l : List Rec} {j : Nat} (hj : j < l.length) (hn : n < 11) (h : 11 * j + n < (encs 0 l).length) : (encs 0 l)[11 * j + n] = (enc j l[j])[n]'(by rw [enc_len]; exact hn) := by
  have hP : (encs 0 (l.take j)).length = 11 * j := by rw [encs_len, List.length_take, Nat.min_eq_left (by omega)]
  have h1 : 11 * j + n < (encs 0 (l.take j) ++ (enc j l[j] ++ encs (j + 1) (l.drop (j + 1)))).length := by rw [← part_at hj]; exact h
  have e : (encs 0 l)[11 * j + n] = (encs 0 (l.take j) ++ (enc j l[j] ++ encs (j + 1) (l.drop (j + 1))))[11 * j + n] := getElem_congr_coll (part_at hj)
  rw [e, List.getElem_append_right (by omega), List.getElem_append_left (by rw [hP, enc_len]; omega)]
  congr 1; omega
/-- c is b, but that place i holds what stood at place k -/
theorem rd_other {l : List Rec} (h : ∀ r ∈ l, okR r) (h256 : l.length ≤ 256) {i k : Nat} (hi : i < l.length) (hk : k < l.length) (hik : i ≠ k) {c : List Int} (hc : c.length = 11 * l.length) (h1 : c.take (11 * i) = encs 0 (l.take i)) (h2 : (c.drop (11 * i)).take 11 = enc k l[k]) : rd 0 c = l.take i := by
  rw [← List.take_append_drop (11 * i) c, h1, rd_encs _ _ _ fun r hr => h r (List.mem_of_mem_take hr), List.length_take, Nat.min_eq_left (by omega), Nat.zero_add, rd_eq, if_pos (by rw [List.length_drop]; omega), h2, dec_place (by omega) (by omega) hik]
  simp
/-- after n steps of the exchange -/
structure Swp (b c : List Int) (i k n : Nat) : Prop where
  len : c.length = b.length
  at' : ∀ (p : Nat) (h : p < b.length) (h' : p < c.length), c[p] = if 11 * i ≤ p ∧ p < 11 * i + n then b.getD (p - 11 * i + 11 * k) 0 else if 11 * k ≤ p ∧ p < 11 * k + n then b.getD (p - 11 * k + 11 * i) 0 else b[p]
theorem Swp.start (b : List Int) (i k : Nat) : Swp b b i k 0 := ⟨rfl, fun p h _ => by rw [if_neg (by omega), if_neg (by omega)]⟩
theorem Swp.step {b c : List Int} {i k n : Nat} (s : Swp b c i k n) (hik : i ≠ k) (hn : n < 11) (h1 : 11 * i + n < b.length) (h2 : 11 * k + n < b.length) : Swp b ((c.set (11 * i + n) b[11 * k + n]).set (11 * k + n) b[11 * i + n]) i k (n + 1) := by
  refine ⟨by simp [s.len], fun p h h' => ?_⟩
  rw [List.getElem_set]
  split
  · rename_i hp
    rw [if_neg (by omega), if_pos (by omega), List.getD_eq_getElem?_getD, show p - 11 * k + 11 * i = 11 * i + n by omega, List.getElem?_eq_getElem h1]; rfl
  · rename_i hp
    rw [List.getElem_set]
    split
    · rename_i hp2
      rw [if_pos (by omega), List.getD_eq_getElem?_getD, show p - 11 * i + 11 * k = 11 * k + n by omega, List.getElem?_eq_getElem h2]; rfl
    · rename_i hp2
      rw [s.at' p h (by rw [s.len]; exact h)]
      by_cases q1 : 11 * i ≤ p ∧ p < 11 * i + n
      · rw [if_pos q1, if_pos (by omega)]
      · by_cases q2 : 11 * k ≤ p ∧ p < 11 * k + n
        · rw [if_neg q1, if_pos q2, if_neg (by omega), if_pos (by omega)]
        · rw [if_neg q1, if_neg q2, if_neg (by omega), if_neg (by omega)]
theorem swapped {l : List Rec} (h : ∀ r ∈ l, okR r) (h256 : l.length ≤ 256) {i k : Nat} (hi : i < l.length) (hk : k < l.length) (hik : i ≠ k) {c : List Int} (s : Swp (encs 0 l) c i k 11) : rd 0 c = l.take (min i k) := by
  have hcl : c.length = 11 * l.length := by rw [s.len, encs_len]
  have hbl := encs_len l 0
  have key : ∀ (a o : Nat), a < l.length → o < l.length → (∀ (p : Nat) (h' : p < c.length), p < 11 * a → c[p] = (encs 0 l)[p]'(by rw [← s.len]; exact h')) → (∀ (n : Nat) (h' : 11 * a + n < c.length), n < 11 → c[11 * a + n] = (encs 0 l).getD (11 * o + n) 0) → a ≠ o → rd 0 c = l.take a := fun a o ha ho g1 g2 hao => by
    refine rd_other h h256 ha ho hao hcl ?_ ?_
    · have e : encs 0 (l.take a) = (encs 0 l).take (11 * a) := by
        have hP : (encs 0 (l.take a)).length = 11 * a := by rw [encs_len, List.length_take, Nat.min_eq_left (by omega)]
        rw [part_at ha, ← hP, List.take_left]
      rw [e]
      refine List.ext_getElem (by simp [s.len]) fun p p1 p2 => ?_
      rw [List.getElem_take, List.getElem_take]
      exact g1 p _ (by simp at p1; omega)
    · refine List.ext_getElem (by simp [enc_len, hcl]; omega) fun n p1 p2 => ?_
      have hn : n < 11 := by rw [enc_len] at p2; exact p2
      rw [List.getElem_take, List.getElem_drop, g2 n (by omega) hn, List.getD_eq_getElem?_getD, List.getElem?_eq_getElem (by omega), Option.getD_some, chunk n ho hn]
  by_cases hlt : i < k
  · rw [Nat.min_eq_left (by omega)]
    refine key i k hi hk (fun p h' hp => ?_) (fun n h' hn => ?_) hik
    · rw [s.at' p (by rw [← s.len]; exact h') h', if_neg (by omega), if_neg (by omega)]
    · rw [s.at' _ (by rw [← s.len]; exact h') h', if_pos (by omega), show 11 * i + n - 11 * i + 11 * k = 11 * k + n by omega]
  · rw [Nat.min_eq_right (by omega)]
    refine key k i hk hi (fun p h' hp => ?_) (fun n h' hn => ?_) (Ne.symm hik)
    · rw [s.at' p (by rw [← s.len]; exact h') h', if_neg (by omega), if_neg (by omega)]
    · rw [s.at' _ (by rw [← s.len]; exact h') h', if_neg (by omega), if_pos (by omega), show 11 * k + n - 11 * k + 11 * i = 11 * i + n by omega]
end Go.Proofs.Ytkfjnbljegoomaa.J
