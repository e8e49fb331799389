/-
  Chapter 20: law.lay; slices.EqualFunc over slices.Equal; pieces.
-/
import Derived.Test.YtfpkcjjgooigbaaQCtA
import Derived.Test.YtfpkcjjgooigbaaQCvX
namespace Go.Proofs.Ytfpkcjjgooigbaa.C
set_option linter.unusedSimpArgs false
set_option linter.unusedVariables false
set_option linter.unusedSectionVars false
open Go.Proofs.Ytfpkcjjgooigbaa.Am
open Go.Proofs.Ytfpkcjjgooigbaa.L (mixed wrap_ok I U CL CLL UCL Word clean words zeros indent)
set_option maxHeartbeats 8000000
theorem lay_fn (rows : List Row) (w : Int) (hl : rows.length ≤ 100) (he : ∀ r ∈ rows, ∀ x ∈ r, x.length ≤ 1000) : Am.Fn Try.prog 11 [1, 0, 0] [RWS rows, I w] (resPV .agg (layR rows w)) := by
  have hL := Lay_fn rows w hl he
  generalize layR rows w = r at hL ⊢
  refine fn_introX mixed (X := X11) c11 2 (by simp [X11]) fun Q hR hN => ?_
  simp [X11]
  refine call_of hL ?_
  simp
  refine hR _ _ ?_
  simp [X11]
theorem inColumns_frz (rows : List Row) (E : Ev rows) : Am.Fn Try.prog 38 [1] [RWS rows] (CLL (colsL rows)) := by
  have h := Fn_frz (nrUCL (colsL rows)) (inColumns_fn rows E)
  rw [fzUCL] at h
  exact h
theorem equal_fi (a b : Word) (r0 r1 r2 r3 r4 r5 : Am.Row) (ha : a.length ≤ 100000) : FI Try.prog (.fn (.func 47) [] []) [CL a, CL b] [r0, r1, r2, r3, r4, r5] (.bool (a == b)) [] := by
  refine fn_introXI mixed (X := X47) c47 (by simp [X47]) (by simp) fun Q hR hN => ?_
  by_cases h0 : a.length = b.length
  · simp [X47, h0]
    refine loopR (fun (k : Nat) vs h' => k ≤ a.length ∧ (∀ (i : Nat) (h : i < a.length) (h2 : i < b.length), i < k → a[i] = b[i]) ∧ ∃ (a2 a3 a7 a8 : PV), vs = [CL a, CL b, .bool false, a3, .bool false, I a.length, I k, a7, a8] ∧ h' = [r0, r1, r2, r3, r4, r5]) (fun k => a.length - k) 0 ?_ ?_
    · exact ⟨Nat.zero_le _, fun i _ _ h => by omega, .undef, _, _, _, by rw [h0]; rfl, rfl⟩
    · rintro k vs h' ⟨g1, g2, a2, a3, a7, a8, rfl, rfl⟩ Q3 hK3 hX3 hR3
      have hw1 : IntKind.i64.wrap ((k : Int) + 1) = ((k + 1 : Nat) : Int) := wrap_ok (by omega) (by omega)
      by_cases hk : k < a.length
      · have hkb : k < b.length := by omega
        by_cases e : a[k] = b[k]
        · simp [hk, hkb, e, hw1]
          refine hK3 (k + 1) _ _ (by omega) ?_
          refine ⟨by omega, fun i hi hi2 hik => ?_, .undef, I k, .bool true, .bool false, by simp, rfl⟩
          by_cases hik' : i < k
          · exact g2 i hi hi2 hik'
          · obtain rfl : i = k := by omega
            exact e
        · have hne : ¬ a = b := fun h => e (by subst h; rfl)
          simp [hk, hkb, e, hw1]
          refine hR3 _ _ ?_
          simp
          refine hR _ _ ?_
          simp [X47, finI, hne]
      · obtain rfl : k = a.length := by omega
        have he : a = b := List.ext_getElem h0 fun i h1 h2 => g2 i h1 h2 h1
        simp [hk]
        refine hX3 _ _ _ ?_
        simp
        refine hR _ _ ?_
        simp [X47, finI, he]
  · have hne : ¬ a = b := fun h => h0 (by rw [h])
    have h0' : ¬ ((a.length : Int) = (b.length : Int)) := by omega
    simp [X47, h0, h0']
    refine hR _ _ ?_
    simp [X47, finI, hne]
theorem equalF_fi (a b : List Word) (r0 r1 r2 r3 r4 r5 : Am.Row) (ha : a.length ≤ 100000) (hx : ∀ x ∈ a, x.length ≤ 100000) : FI Try.prog (.fn (.func 46) [] []) [CLL a, CLL b, .fn (.func 47) [] []] [r0, r1, r2, r3, r4, r5] (.bool (a == b)) [] := by
  refine fn_introXI mixed (X := X46) c46 (by simp [X46]) (by simp) fun Q hR hN => ?_
  by_cases h0 : a.length = b.length
  · simp [X46, h0]
    refine loopR (fun (k : Nat) vs h' => k ≤ a.length ∧ (∀ (i : Nat) (h : i < a.length) (h2 : i < b.length), i < k → a[i] = b[i]) ∧ ∃ (a4 a5 a6 a11 a12 : PV), vs = [CLL a, CLL b, .fn (.func 47) [] [], .bool false, a4, a5, a6, .bool false, CLL a, I a.length, I k, a11, a12] ∧ h' = [r0, r1, r2, r3, r4, r5]) (fun k => a.length - k) 0 ?_ ?_
    · exact ⟨Nat.zero_le _, fun i _ _ h => by omega, _, _, _, _, _, by rw [h0]; rfl, rfl⟩
    · rintro k vs h' ⟨g1, g2, a4, a5, a6, a11, a12, rfl, rfl⟩ Q3 hK3 hX3 hR3
      have hw1 : IntKind.i64.wrap ((k : Int) + 1) = ((k + 1 : Nat) : Int) := wrap_ok (by omega) (by omega)
      by_cases hk : k < a.length
      · have hkb : k < b.length := by omega
        have hE := equal_fi a[k] b[k] r0 r1 r2 r3 r4 r5 (hx _ (List.getElem_mem hk))
        simp [hk, hkb]
        refine cally_of hE ?_
        by_cases e : a[k] = b[k]
        · simp [e, hw1]
          refine hK3 (k + 1) _ _ (by omega) ?_
          refine ⟨by omega, fun i hi hi2 hik => ?_, I k, CL b[k], CL b[k], .bool true, .bool false, by simp, rfl⟩
          by_cases hik' : i < k
          · exact g2 i hi hi2 hik'
          · obtain rfl : i = k := by omega
            exact e
        · have hne : ¬ a = b := fun h => e (by subst h; rfl)
          simp [e, hw1]
          refine hR3 _ _ ?_
          simp
          refine hR _ _ ?_
          simp [X46, finI, hne]
      · obtain rfl : k = a.length := by omega
        have he : a = b := List.ext_getElem h0 fun i h1 h2 => g2 i h1 h2 h1
        simp [hk]
        refine hX3 _ _ _ ?_
        simp
        refine hR _ _ ?_
        simp [X46, finI, he]
  · have hne : ¬ a = b := fun h => h0 (by rw [h])
    have h0' : ¬ ((a.length : Int) = (b.length : Int)) := by omega
    simp [X46, h0, h0']
    refine hR _ _ ?_
    simp [X46, finI, hne]
/-- the pieces of a line, behind some cells of one -/
def piG : Nat → Word → Word → List Word
  | 0, cur, _ => [cur]
  | _ + 1, cur, [] => [cur]
  | n + 1, cur, c :: r => if 2 ≤ indent (c :: r) then cur :: piG n [] ((c :: r).drop (indent (c :: r))) else piG n (cur ++ [c]) r
def pieces (l : Word) : List Word := piG l.length [] l
theorem indent_le : ∀ (l : Word), indent l ≤ l.length
  | [] => by simp [indent]
  | c :: r => by
    unfold indent
    have := indent_le r
    split <;> simp <;> omega
theorem piG_nil (n : Nat) (cur : Word) : piG n cur [] = [cur] := by cases n <;> rfl
theorem piG_more : ∀ (m n : Nat) (cur l : Word), l.length ≤ n → n ≤ m → piG m cur l = piG n cur l
  | m, 0, cur, l, h, _ => by
    have : l = [] := List.length_eq_zero_iff.1 (by omega)
    subst this
    rw [piG_nil, piG_nil]
  | m + 1, n + 1, cur, [], _, _ => rfl
  | m + 1, n + 1, cur, c :: r, h, hm => by
    simp at h
    unfold piG
    split
    · rename_i h2
      rw [piG_more m n [] ((c :: r).drop (indent (c :: r))) (by simp; omega) (by omega)]
    · rw [piG_more m n (cur ++ [c]) r (by omega) (by omega)]
theorem piG_step {l : Word} {k : Nat} (hk : k < l.length) (cur : Word) : piG (l.length - k) cur (l.drop k) =
    if 2 ≤ indent (l.drop k) then cur :: piG (l.length - (k + indent (l.drop k))) [] (l.drop (k + indent (l.drop k))) else piG (l.length - (k + 1)) (cur ++ [l[k]]) (l.drop (k + 1)) := by
  have h1 := indent_le (l.drop k)
  rw [List.length_drop] at h1
  obtain ⟨n, hn⟩ : ∃ n, l.length - k = n + 1 := ⟨l.length - k - 1, by omega⟩
  rw [hn]
  rw [List.drop_eq_getElem_cons hk] at h1 ⊢
  rw [piG, ← List.drop_eq_getElem_cons hk, List.drop_drop]
  split
  · rename_i h2
    rw [piG_more n (l.length - (k + indent (l.drop k))) [] _ (by simp) (by omega)]
  · rw [show n = l.length - (k + 1) by omega]
theorem take_step {l : Word} {f k : Nat} (hk : k < l.length) (hf : f ≤ k) : (l.drop f).take (k + 1 - f) = (l.drop f).take (k - f) ++ [l[k]] := by
  rw [show k + 1 - f = k - f + 1 by omega, List.take_succ_eq_append_getElem (by rw [List.length_drop]; omega), List.getElem_drop]
  simp only [show f + (k - f) = k by omega]
theorem pieces_fn (l : Word) (hl : l.length ≤ 1000) : Am.Fn Try.prog 45 [1] [CL l] (.uslc ((pieces l).map CL)) := by
  refine fn_introX mixed (X := X45) c45 5 (by simp [X45]) fun Q hR hN => ?_
  simp [X45]
  refine loopX (fun (p : Nat × Nat × List Word) vs h => p.1 ≤ p.2.1 ∧ p.2.1 ≤ l.length ∧ p.2.2.length ≤ p.1 ∧ pieces l = p.2.2 ++ piG (l.length - p.2.1) ((l.drop p.1).take (p.2.1 - p.1)) (l.drop p.2.1) ∧
    vs = [CL l, .undef, .own 4 1 p.2.2.length 1 0 p.2.2.length, I p.1, I p.2.1, .undef, .undef, .undef] ∧ h = [dd, dd, dd, dd, (1, .arr 1 0 false (p.2.2.map CL))]) (fun p => l.length - p.2.1) (0, 0, []) ?_ ?_
  · simp [pieces]
  · rintro ⟨fr, at_, o⟩ vs h ⟨g1, g2, g3, g4, rfl, rfl⟩ Q1 hK hX hR'
    dsimp only at g1 g2 g3 g4
    by_cases hk : at_ < l.length
    · have hB := L.indentP_fn (l.drop at_) (by simp [maxLen]; omega)
      have hi := indent_le (l.drop at_)
      rw [List.length_drop] at hi
      rw [piG_step hk] at g4
      have hts := take_step (f := fr) hk g1
      obtain ⟨k, hkk⟩ : ∃ k, k = indent (l.drop at_) := ⟨_, rfl⟩
      rw [← hkk] at hB hi g4
      rw [show CL (l.drop at_) = .slc (List.take (l.length - at_) ((l.map U).drop at_)) by rw [List.take_of_length_le (by simp)]; simp [List.map_drop]] at hB
      have c1 : (o.length + 1) * 24 ≤ 140737488355328 := by omega
      have ta : ((at_ : Nat) : Int) ≤ (l.length : Int) := by omega
      simp [hk, g2]
      refine call_of hB ?_
      by_cases hk2 : 2 ≤ k
      · have t2 : (2 : Int) ≤ k := by omega
        have w1 : IntKind.i64.wrap ((at_ : Int) + k) = ((at_ + k : Nat) : Int) := wrap_ok (by omega) (by omega)
        have t1 : ¬ (k : Int) < 1 := by omega
        rw [if_pos hk2] at g4
        have hcu : CL ((l.drop fr).take (at_ - fr)) = .slc (List.take (at_ - fr) (List.drop fr (List.map U l))) := by simp [List.map_take, List.map_drop]
        simp [t2, t1, w1, g1, g2, c1]
        refine hK (at_ + k, at_ + k, o ++ [(l.drop fr).take (at_ - fr)]) _ _ (by dsimp only; omega) ?_
        rw [← hcu]
        simp [g4]
        omega
      · rw [if_neg hk2, ← hts] at g4
        have w1 : IntKind.i64.wrap ((at_ : Int) + 1) = ((at_ + 1 : Nat) : Int) := wrap_ok (by omega) (by omega)
        have hk01 : k = 0 ∨ k = 1 := by omega
        rcases hk01 with rfl | rfl
        · simp [w1]
          refine hK (fr, at_ + 1, o) _ _ (by dsimp only; omega) ?_
          simp [g4]
          omega
        · simp [w1]
          refine hK (fr, at_ + 1, o) _ _ (by dsimp only; omega) ?_
          simp [g4]
          omega
    · obtain rfl : at_ = l.length := by omega
      have c1 : (o.length + 1) * 24 ≤ 140737488355328 := by omega
      have hcu : CL ((l.drop fr).take (l.length - fr)) = .slc (List.take (l.length - fr) (List.drop fr (List.map U l))) := by simp [List.map_take, List.map_drop]
      rw [List.drop_length, piG_nil] at g4
      simp
      refine hX _ _ _ ?_
      simp [g1, c1]
      refine hR _ _ ?_
      rw [← hcu, g4]
      simp [X45]
end Go.Proofs.Ytfpkcjjgooigbaa.C
