/-
  Chapter 23: Split, walked.
-/
import Derived.Test.YtnipkbhgaljcoaaVeA
namespace Go.Proofs.Ytnipkbhgaljcoaa.V
set_option linter.unusedSimpArgs false
set_option linter.unusedVariables false
set_option linter.unusedSectionVars false
open Go.Proofs.Ytnipkbhgaljcoaa.Am
def arr1 (i : Nat) (a : Int) (l : List Int) : List Int := List.replicate i 0 ++ a :: l
theorem arr1_len (i : Nat) (a : Int) (l : List Int) : (arr1 i a l).length = i + 1 + l.length := by simp [arr1]; omega
theorem arr1_i (i : Nat) (a : Int) (l : List Int) : (arr1 i a l)[i]? = some a := by simp [arr1]
theorem arr1_j {i j : Nat} (a : Int) (l : List Int) (h : i < j) : (arr1 i a l)[j]? = l[j - i - 1]? := by
  unfold arr1
  rw [List.getElem?_append_right (by simp; omega), List.length_replicate, show j - i = (j - i - 1) + 1 by omega, List.getElem?_cons_succ]
  simp
theorem arr1_set (i : Nat) (a v : Int) (l : List Int) : (arr1 i a l).set i v = arr1 i v l := by
  unfold arr1
  rw [List.set_append_right _ _ (by simp)]; simp
theorem arr1_succ (i : Nat) (l : List Int) : List.replicate (i + 1) 0 ++ l = arr1 i 0 l := by
  unfold arr1; rw [List.replicate_succ']; simp
abbrev fsts (l : List (Int × Int)) : List Int := l.map (·.1)
abbrev snds (l : List (Int × Int)) : List Int := l.map (·.2)
def splitR (ok : Nat → Nat → Bool) (n : Nat) : PV := if (ent ok n 0).1 < 0 then .tup [.nils, I 230] else .tup [.uslc ((path ok n n 0).map I), I 0]
set_option maxHeartbeats 2000000 in
theorem split_fill (c : List (List Int)) (b : List Bool) (m : Int) (hc : c.length ≤ maxLen) (hb : b.length < maxLen) (hs : shp c b.length = true) (hm : 1 ≤ m) (hbb : (b.length + 1) * 8 ≤ 140737488355328) : Am.Fn Try.prog 12 [1, 0] [LL c, BL b, I m] (splitR (oks c b m b.length) b.length) := by
  obtain ⟨n, hn⟩ : ∃ n, b.length = n := ⟨_, rfl⟩
  obtain ⟨ok, hok⟩ : ∃ ok, oks c b m n = ok := ⟨_, rfl⟩
  refine fn_introX mixed (X := X12) c12 8 (by simp [X12]) fun Q hR hN => ?_
  simp [X12, r_nil, hn]
  refine call_of (shaped_fn c n hc ⟨by omega, by unfold maxLen at hb; omega⟩) ?_
  rw [hn] at hs hbb
  have hw1 : IntKind.i64.wrap ((n : Int) + 1) = ((n + 1 : Nat) : Int) := wrap_ok (by omega) (by omega)
  have hw2 : IntKind.i64.wrap ((n : Int) - 1) = (n : Int) - 1 := wrap_ok (by omega) (by omega)
  have q1 : ¬ m < 1 := by omega
  have q2 : (0 : Int) ≤ (n : Int) + 1 := by omega
  have q3 : ((n : Int) + 1) * 8 ≤ 140737488355328 := by omega
  have q4 : (n : Int) + 1 ≤ 9223372036854775807 := by omega
  simp [callOk, r_nil, storeP, hs, hn, hw1, hw2, q1, q2, q3, q4]
  refine loopX (fun (i : Nat) vs h => i ≤ n ∧ vs = [LL c, BL b, I m, .undef, .undef, I n, .own 6 1 (n + 1) 1 0 (n + 1), .own 7 1 (n + 1) 1 0 (n + 1), I ((i : Int) - 1), .undef, .undef, .undef, .undef, .undef, .undef, .undef, .undef, .undef, .undef, .undef, .undef] ∧
      h = [(0, .dead), (0, .dead), (0, .dead), (0, .dead), (0, .dead), (0, .dead), (1, .arr 1 0 false ((List.replicate i 0 ++ fsts (sol ok n (n - i))).map I)), (1, .arr 1 0 false ((List.replicate i 0 ++ snds (sol ok n (n - i))).map I))]) (fun i => i) n ?_ ?_
  · simp [settled, settled, storeP]
    simp [sol, List.replicate_succ']
  · rintro i1 vs h ⟨h1, rfl, rfl⟩ Q hK hX hR'
    cases i1 with
    | zero =>
      rw [hn, hok] at hR
      have hg : ∀ j, j ≤ n → (sol ok n n)[j]? = some (ent ok n j) := fun j g => by
        rw [sol_get ok n n (Nat.le_refl _) _ (by omega)]; simp
      have hl := sol_len ok n n
      obtain ⟨T, hT⟩ : ∃ T, sol ok n n = T := ⟨_, rfl⟩
      rw [hT] at hg hl
      obtain ⟨e0, he0⟩ : ∃ e, ent ok n 0 = e := ⟨_, rfl⟩
      have hg0 := hg 0 (by omega)
      rw [he0] at hg0
      have l1 : (fsts T).length = n + 1 := by simp [hl]
      have l2 : (snds T).length = n + 1 := by simp [hl]
      have h0 : (fsts T)[0]? = some e0.1 := by simp [hg0]
      have hnx : ∀ j, j ≤ n → (snds T)[j]? = some (ent ok n j).2 := fun j g => by simp [hg j g]
      simp only [Nat.sub_zero, hT, List.replicate_zero, List.nil_append]
      obtain ⟨F, hF⟩ : ∃ F, fsts T = F := ⟨_, rfl⟩
      obtain ⟨S, hS⟩ : ∃ S, snds T = S := ⟨_, rfl⟩
      rw [hF] at l1 h0 ⊢
      rw [hS] at l2 hnx ⊢
      simp [r_nil, storeP]
      refine hX _ _ _ ?_
      clear hX hK hR' hg hg0 hl
      replace h0 : F[0] = e0.1 := by rw [List.getElem?_eq_getElem (by omega)] at h0; exact Option.some.inj h0
      by_cases t0 : e0.1 < 0
      · simp [r_nil, storeP, l1, h0, t0]
        refine hR _ _ ?_
        simp [X12, fin, splitR, he0, t0]
      · have p1 : (0 : Int) ≤ n := by omega
        have p2 : (n : Int) * 8 ≤ 140737488355328 := by omega
        have p3 : (n : Int) ≤ 9223372036854775807 := by omega
        simp [r_nil, storeP, l1, h0, t0, p1, p2, p3]
        refine loopX (fun (s : Nat × Nat × List Int) vs h => n - s.2.1 ≤ s.1 ∧ s.2.1 ≤ n ∧ s.2.2.length ≤ s.2.1 ∧ 0 ≤ (ent ok n s.2.1).1 ∧ path ok n n 0 = s.2.2 ++ path ok n s.1 s.2.1 ∧
          vs = [.undef, .undef, .undef, .undef, .undef, I n, .undef, .own 6 1 (n + 1) 1 0 (n + 1), .undef, .undef, .own 7 1 s.2.2.length 1 0 s.2.2.length, I s.2.1, .undef, .undef, .undef, .undef, .undef, .undef, .undef, .undef, .undef] ∧
          h = [(0, .dead), (0, .dead), (0, .dead), (0, .dead), (0, .dead), (0, .dead), (1, .arr 1 0 false (S.map I)), (1, .arr 1 0 false (s.2.2.map I))]) (fun s => s.1) (n, 0, []) ?_ ?_
        · simp [settled, settled, storeP, he0]
          omega
        · rintro ⟨f, i, A⟩ vs h ⟨a1, a2, a3, a4, a5, rfl, rfl⟩ Q hK hX hR'
          dsimp only at a1 a2 a3 a4 a5
          by_cases hi : i < n
          · rcases ent_spec ok n i hi with ⟨h1, _⟩ | ⟨j, c1, c2, c3, c4, c5, _⟩
            · rw [h1] at a4; exact absurd a4 (by show ¬ (0 : Int) ≤ -1; omega)
            · cases f with
              | zero => omega
              | succ f =>
                rw [show path ok n (f + 1) i = (ent ok n i).2 :: path ok n f (ent ok n i).2.toNat by rw [path, if_pos hi]] at a5
                have hx := hnx i a2
                rw [c5] at hx a5
                replace hx : S[i]? = some (j : Int) := hx
                replace a5 : path ok n n 0 = A ++ (j : Int) :: path ok n f j := a5
                have b1 : (i : Int) < n + 1 := by omega
                have b2 : (A.length + 1) * 8 ≤ 140737488355328 := by omega
                simp [r_nil, storeP, hi, l2, hx, b1, b2]
                refine hK (f, j, A ++ [(j : Int)]) _ _ (by show f < f + 1; omega) ?_
                simp [settled, settled, storeP, a5, c3]
                omega
          · obtain rfl : i = n := by omega
            have hp : path ok i f i = [] := by cases f <;> simp [path]
            rw [hp, List.append_nil] at a5
            have b2 : (A.length : Int) * 8 ≤ 140737488355328 := by omega
            have b3 : (A.length : Int) ≤ 9223372036854775807 := by omega
            simp [r_nil, storeP]
            refine hX _ _ _ ?_
            simp [r_nil, storeP, b2, b3]
            by_cases hA : A = []
            · subst hA
              simp [r_nil, storeP]
              refine hR _ _ ?_
              simp [X12, fin, storeP, splitR, he0, t0, a5]
            · have hA' : ¬ A.length = 0 := by simpa using hA
              have tk : List.take A.length (List.map I A) = List.map I A := List.take_of_length_le (by simp)
              have frzI : frzE ∘ I = I := rfl
              simp [r_nil, storeP, hA, hA', tk, frzI]
              refine hR _ _ ?_
              simp [X12, fin, storeP, splitR, he0, t0, a5]
    | succ i =>
      have hw3 : IntKind.i64.wrap ((i : Int) - 1) = (i : Int) - 1 := wrap_ok (by omega) (by omega)
      obtain ⟨k, hk⟩ : ∃ k, n - (i + 1) = k := ⟨_, rfl⟩
      obtain ⟨T, hT⟩ : ∃ T, sol ok n k = T := ⟨_, rfl⟩
      have hTl : T.length = k + 1 := by rw [← hT, sol_len]
      have hTg : ∀ j, i < j → j ≤ n → T[j - i - 1]? = some (ent ok n j) := fun j g1 g2 => by
        rw [← hT, sol_get ok n k (by omega) _ (by omega), show n - k + (j - i - 1) = j by omega]
      rw [hk, hT, arr1_succ, arr1_succ]
      have l1 : ∀ a, (arr1 i a (fsts T)).length = n + 1 := fun a => by rw [arr1_len]; simp; omega
      have l2 : ∀ a, (arr1 i a (snds T)).length = n + 1 := fun a => by rw [arr1_len]; simp; omega
      have s1 : ∀ a v, (List.map I (arr1 i a (fsts T))).set i (I v) = List.map I (arr1 i v (fsts T)) := fun a v => by rw [← arr1_set i a v, List.map_set]
      have s2 : ∀ a v, (List.map I (arr1 i a (snds T))).set i (I v) = List.map I (arr1 i v (snds T)) := fun a v => by rw [← arr1_set i a v, List.map_set]
      have g1 : ∀ a l, (arr1 i a l)[i]? = some a := fun a l => arr1_i i a l
      have b1 : (i : Int) < n + 1 := by omega
      simp [r_nil, storeP, l1, l2, g1, s1, b1]
      refine loopX (fun (j : Nat) vs h => i ≤ j ∧ j ≤ n ∧ vs = [LL c, BL b, I m, .undef, .undef, I n, .own 6 1 (n + 1) 1 0 (n + 1), .own 7 1 (n + 1) 1 0 (n + 1), I i, I j, .undef, .undef, .undef, .undef, .undef, .undef, .undef, .undef, .undef, .undef, .undef] ∧
        h = [(0, .dead), (0, .dead), (0, .dead), (0, .dead), (0, .dead), (0, .dead), (1, .arr 1 0 false ((arr1 i (inn (ok i) (j + 1) (T.drop (j - i))).1 (fsts T)).map I)), (1, .arr 1 0 false ((arr1 i (inn (ok i) (j + 1) (T.drop (j - i))).2 (snds T)).map I))]) (fun j => j) n ?_ ?_
      · simp [settled, settled, storeP]
        have : T.drop (n - i) = [] := List.drop_eq_nil_of_le (by omega)
        simp [this, inn, b1]
        omega
      · rintro j vs h ⟨h2, h3, rfl, rfl⟩ Q hK2 hX2 hR2
        obtain ⟨a, ha⟩ : ∃ a, inn (ok i) (j + 1) (T.drop (j - i)) = a := ⟨_, rfl⟩
        rw [ha]
        by_cases hj : i < j
        · obtain ⟨x, hx⟩ : ∃ x, ent ok n j = x := ⟨_, rfl⟩
          have hgx := hTg j hj h3
          rw [hx] at hgx
          have hda : T.drop (j - 1 - i) = x :: T.drop (j - i) := by
            rw [show j - 1 - i = j - i - 1 by omega, List.drop_eq_getElem_cons (show j - i - 1 < T.length by omega), show j - i - 1 + 1 = j - i by omega]
            rw [List.getElem?_eq_getElem (by omega)] at hgx
            cases hgx; rfl
          have gj : ∀ a, (arr1 i a (fsts T))[j]? = some x.1 := fun a => by rw [arr1_j a _ hj, List.getElem?_map, hgx]; rfl
          have hxb := ent_le ok n (n - j) j rfl h3
          rw [hx] at hxb
          have hw4 : IntKind.i64.wrap (x.1 + 1) = x.1 + 1 := wrap_ok (by omega) (by omega)
          have hw5 : IntKind.i64.wrap ((j : Int) - 1) = ((j - 1 : Nat) : Int) := by rw [wrap_ok (by omega) (by omega)]; omega
          have b2 : (j : Int) < n + 1 := by omega
          obtain ⟨row, r1, r2⟩ := cst_get hs (show i < n by omega) h3
          have hokj : ok i j = oks c b m n i j := by rw [hok]
          obtain ⟨v, hv⟩ : ∃ v, cst c i j = v := ⟨_, rfl⟩
          rw [hv] at r2
          have hw6 : IntKind.i64.wrap 1 = 1 := by decide
          have cont : ok i j = false ∨ x.1 < 0 → inn (ok i) (j - 1 + 1) (T.drop (j - 1 - i)) = a := fun hh => by
            rw [hda, show j - 1 + 1 = j by omega, inn, if_pos (hh.symm), ha]
          by_cases t1 : x.1 < 0
          · simp [r_nil, storeP, hj, l1, l2, g1, gj, b1, b2, t1, hw5]
            refine hK2 (j - 1) _ _ (by omega) ?_
            rw [cont (.inr t1)]
            simp [settled, settled, storeP]
            omega
          · by_cases t2 : j < n ∧ b.getD j false = false
            · have ta := t2.1
              have hbj : b[j] = false := by have := t2.2; rw [← this]; simp [List.getD, List.getElem?_eq_getElem (show j < b.length by omega)]
              simp [r_nil, storeP, hj, l1, l2, g1, gj, s1, s2, b1, b2, t1, hw4, hw5, hn, r1, r2, ta, hbj]
              refine hK2 (j - 1) _ _ (by omega) ?_
              rw [cont (.inl (by rw [hokj, oks, t2.2]; simp; intros; omega))]
              simp [settled, settled, storeP]
              omega
            · have t20 : j = n ∨ (j < n ∧ b.getD j false = true) := by
                rcases Nat.lt_or_ge j n with h | h
                · cases h' : b.getD j false
                  · exact absurd ⟨h, h'⟩ t2
                  · exact .inr ⟨h, rfl⟩
                · exact .inl (by omega)
              rcases t20 with hjn | ⟨ta, tb⟩
              · have ta : ¬ j < n := by omega
                by_cases t3 : v < 1
                · simp [r_nil, storeP, hj, l1, l2, g1, gj, s1, s2, b1, b2, t1, hw4, hw5, hn, r1, r2, ta, t3]
                  refine hK2 (j - 1) _ _ (by omega) ?_
                  rw [cont (.inl (by rw [hokj, oks, hv]; simp; intros; omega))]
                  simp [settled, settled, storeP]
                  omega
                · by_cases t4 : m < v
                  · simp [r_nil, storeP, hj, l1, l2, g1, gj, s1, s2, b1, b2, t1, hw4, hw5, hn, r1, r2, ta, t3, t4]
                    refine hK2 (j - 1) _ _ (by omega) ?_
                    rw [cont (.inl (by rw [hokj, oks, hv]; simp; intros; omega))]
                    simp [settled, settled, storeP]
                    omega
                  · have ho : ok i j = true := by
                      rw [hokj, oks, hv]
                      simp only [Bool.and_eq_true, Bool.or_eq_true, decide_eq_true_eq]
                      exact ⟨⟨by omega, by omega⟩, .inl hjn⟩
                    have hstep : ∀ a', (if a.1 < 0 ∨ x.1 + 1 < a.1 then (x.1 + 1, (j : Int)) else a) = a' → inn (ok i) (j - 1 + 1) (T.drop (j - 1 - i)) = a' := fun a' h => by
                      rw [hda, show j - 1 + 1 = j by omega, inn, if_neg (by rw [ho]; simp; omega), ha]; exact h
                    have hbrk : ∀ a', inn (ok i) (j - 1 + 1) (T.drop (j - 1 - i)) = a' → a'.1 = 1 → sol ok n (n - i) = a' :: T := fun a' h h' => by
                      rw [show n - i = k + 1 by omega, sol, hT, show n - k - 1 = i by omega, show n - k = i + 1 by omega]
                      have := inn_one (ok i) (T.take (j - 1 - i)) (i + 1) (T.drop (j - 1 - i))
                      rw [List.length_take, Nat.min_eq_left (by omega), show i + 1 + (j - 1 - i) = j - 1 + 1 by omega, List.take_append_drop, h] at this
                      rw [this h']
                    by_cases u : a.1 < 0 ∨ x.1 + 1 < a.1
                    · have h9 := hstep _ (if_pos u)
                      have u' : ¬ a.1 < 0 → x.1 + 1 < a.1 := fun h => u.resolve_left h
                      by_cases z : x.1 = 0
                      · have z' : x.1 + 1 = 1 := by omega
                        by_cases ua : a.1 < 0
                        · simp [r_nil, storeP, hj, l1, l2, g1, gj, s1, s2, b1, b2, t1, hw4, hw5, hn, r1, r2, ta, t3, t4, ua, z, hw6]
                          refine hX2 _ _ _ ?_
                          simp [r_nil, storeP, hw3]
                          refine hK i _ _ (by omega) ?_
                          rw [hbrk _ h9 z']
                          simp [settled, settled, storeP, arr1, z]
                          omega
                        · have ub := u' ua
                          have ub' : 1 < a.1 := by omega
                          simp [r_nil, storeP, hj, l1, l2, g1, gj, s1, s2, b1, b2, t1, hw4, hw5, hn, r1, r2, ta, t3, t4, ua, ub', z, hw6]
                          refine hX2 _ _ _ ?_
                          simp [r_nil, storeP, hw3]
                          refine hK i _ _ (by omega) ?_
                          rw [hbrk _ h9 z']
                          simp [settled, settled, storeP, arr1, z]
                          omega
                      · have z' : ¬ x.1 + 1 = 1 := by omega
                        by_cases ua : a.1 < 0
                        · simp [r_nil, storeP, hj, l1, l2, g1, gj, s1, s2, b1, b2, t1, hw4, hw5, hn, r1, r2, ta, t3, t4, ua, z']
                          refine hK2 (j - 1) _ _ (by omega) ?_
                          rw [h9]
                          simp [settled, settled, storeP]
                          omega
                        · have ub := u' ua
                          simp [r_nil, storeP, hj, l1, l2, g1, gj, s1, s2, b1, b2, t1, hw4, hw5, hn, r1, r2, ta, t3, t4, ua, ub, z']
                          refine hK2 (j - 1) _ _ (by omega) ?_
                          rw [h9]
                          simp [settled, settled, storeP]
                          omega
                    · have h9 := hstep _ (if_neg u)
                      have ua : ¬ a.1 < 0 := fun h => u (.inl h)
                      have ub : ¬ x.1 + 1 < a.1 := fun h => u (.inr h)
                      by_cases z : a.1 = 1
                      · rw [z] at ub
                        simp [r_nil, storeP, hj, l1, l2, g1, gj, s1, s2, b1, b2, t1, hw4, hw5, hn, r1, r2, ta, t3, t4, ua, ub, z]
                        refine hX2 _ _ _ ?_
                        simp [r_nil, storeP, hw3]
                        refine hK i _ _ (by omega) ?_
                        rw [hbrk _ h9 z]
                        simp [settled, settled, storeP, arr1, z]
                        omega
                      · simp [r_nil, storeP, hj, l1, l2, g1, gj, s1, s2, b1, b2, t1, hw4, hw5, hn, r1, r2, ta, t3, t4, ua, ub, z]
                        refine hK2 (j - 1) _ _ (by omega) ?_
                        rw [h9]
                        simp [settled, settled, storeP]
                        omega
              · have hbj : b[j] = true := by rw [← tb]; simp [List.getD, List.getElem?_eq_getElem (show j < b.length by omega)]
                by_cases t3 : v < 1
                · simp [r_nil, storeP, hj, l1, l2, g1, gj, s1, s2, b1, b2, t1, hw4, hw5, hn, r1, r2, ta, hbj, t3]
                  refine hK2 (j - 1) _ _ (by omega) ?_
                  rw [cont (.inl (by rw [hokj, oks, hv]; simp; intros; omega))]
                  simp [settled, settled, storeP]
                  omega
                · by_cases t4 : m < v
                  · simp [r_nil, storeP, hj, l1, l2, g1, gj, s1, s2, b1, b2, t1, hw4, hw5, hn, r1, r2, ta, hbj, t3, t4]
                    refine hK2 (j - 1) _ _ (by omega) ?_
                    rw [cont (.inl (by rw [hokj, oks, hv]; simp; intros; omega))]
                    simp [settled, settled, storeP]
                    omega
                  · have ho : ok i j = true := by
                      rw [hokj, oks, hv]
                      simp only [Bool.and_eq_true, Bool.or_eq_true, decide_eq_true_eq]
                      exact ⟨⟨by omega, by omega⟩, .inr tb⟩
                    have hstep : ∀ a', (if a.1 < 0 ∨ x.1 + 1 < a.1 then (x.1 + 1, (j : Int)) else a) = a' → inn (ok i) (j - 1 + 1) (T.drop (j - 1 - i)) = a' := fun a' h => by
                      rw [hda, show j - 1 + 1 = j by omega, inn, if_neg (by rw [ho]; simp; omega), ha]; exact h
                    have hbrk : ∀ a', inn (ok i) (j - 1 + 1) (T.drop (j - 1 - i)) = a' → a'.1 = 1 → sol ok n (n - i) = a' :: T := fun a' h h' => by
                      rw [show n - i = k + 1 by omega, sol, hT, show n - k - 1 = i by omega, show n - k = i + 1 by omega]
                      have := inn_one (ok i) (T.take (j - 1 - i)) (i + 1) (T.drop (j - 1 - i))
                      rw [List.length_take, Nat.min_eq_left (by omega), show i + 1 + (j - 1 - i) = j - 1 + 1 by omega, List.take_append_drop, h] at this
                      rw [this h']
                    by_cases u : a.1 < 0 ∨ x.1 + 1 < a.1
                    · have h9 := hstep _ (if_pos u)
                      have u' : ¬ a.1 < 0 → x.1 + 1 < a.1 := fun h => u.resolve_left h
                      by_cases z : x.1 = 0
                      · have z' : x.1 + 1 = 1 := by omega
                        by_cases ua : a.1 < 0
                        · simp [r_nil, storeP, hj, l1, l2, g1, gj, s1, s2, b1, b2, t1, hw4, hw5, hn, r1, r2, ta, hbj, t3, t4, ua, z, hw6]
                          refine hX2 _ _ _ ?_
                          simp [r_nil, storeP, hw3]
                          refine hK i _ _ (by omega) ?_
                          rw [hbrk _ h9 z']
                          simp [settled, settled, storeP, arr1, z]
                          omega
                        · have ub := u' ua
                          have ub' : 1 < a.1 := by omega
                          simp [r_nil, storeP, hj, l1, l2, g1, gj, s1, s2, b1, b2, t1, hw4, hw5, hn, r1, r2, ta, hbj, t3, t4, ua, ub', z, hw6]
                          refine hX2 _ _ _ ?_
                          simp [r_nil, storeP, hw3]
                          refine hK i _ _ (by omega) ?_
                          rw [hbrk _ h9 z']
                          simp [settled, settled, storeP, arr1, z]
                          omega
                      · have z' : ¬ x.1 + 1 = 1 := by omega
                        by_cases ua : a.1 < 0
                        · simp [r_nil, storeP, hj, l1, l2, g1, gj, s1, s2, b1, b2, t1, hw4, hw5, hn, r1, r2, ta, hbj, t3, t4, ua, z']
                          refine hK2 (j - 1) _ _ (by omega) ?_
                          rw [h9]
                          simp [settled, settled, storeP]
                          omega
                        · have ub := u' ua
                          simp [r_nil, storeP, hj, l1, l2, g1, gj, s1, s2, b1, b2, t1, hw4, hw5, hn, r1, r2, ta, hbj, t3, t4, ua, ub, z']
                          refine hK2 (j - 1) _ _ (by omega) ?_
                          rw [h9]
                          simp [settled, settled, storeP]
                          omega
                    · have h9 := hstep _ (if_neg u)
                      have ua : ¬ a.1 < 0 := fun h => u (.inl h)
                      have ub : ¬ x.1 + 1 < a.1 := fun h => u (.inr h)
                      by_cases z : a.1 = 1
                      · rw [z] at ub
                        simp [r_nil, storeP, hj, l1, l2, g1, gj, s1, s2, b1, b2, t1, hw4, hw5, hn, r1, r2, ta, hbj, t3, t4, ua, ub, z]
                        refine hX2 _ _ _ ?_
                        simp [r_nil, storeP, hw3]
                        refine hK i _ _ (by omega) ?_
                        rw [hbrk _ h9 z]
                        simp [settled, settled, storeP, arr1, z]
                        omega
                      · simp [r_nil, storeP, hj, l1, l2, g1, gj, s1, s2, b1, b2, t1, hw4, hw5, hn, r1, r2, ta, hbj, t3, t4, ua, ub, z]
                        refine hK2 (j - 1) _ _ (by omega) ?_
                        rw [h9]
                        simp [settled, settled, storeP]
                        omega
        · obtain rfl : j = i := by omega
          simp [r_nil, storeP]
          refine hX2 _ _ _ ?_
          simp [r_nil, storeP, hw3]
          refine hK j _ _ (by omega) ?_
          have : sol ok n (n - j) = a :: T := by
            rw [show n - j = k + 1 by omega, sol, hT, show n - k - 1 = j by omega, show n - k = j + 1 by omega, ← ha]; simp
          rw [this]
          simp [settled, settled, storeP, arr1]
          omega
end Go.Proofs.Ytnipkbhgaljcoaa.V
