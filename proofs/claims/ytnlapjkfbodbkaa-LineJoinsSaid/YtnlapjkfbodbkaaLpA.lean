/-
  Chapter 18: Fewest of the reference.
-/
import Derived.Test.YtnlapjkfbodbkaaLoP
import Derived.Test.YtnlapjkfbodbkaaLnA
namespace Go.Proofs.Ytnlapjkfbodbkaa.L
set_option linter.unusedSimpArgs false
set_option linter.unusedVariables false
set_option linter.unusedSectionVars false
open Go.Proofs.Ytnlapjkfbodbkaa.Am
set_option maxHeartbeats 4000000
theorem bests_range {ws : List Word} {W a b : Nat} : ∀ e j, -1 ≤ (bests ws W a b e).getD j 0 ∧ (bests ws W a b e).getD j 0 ≤ e := by
  intro e
  induction e with
  | zero => intro j; cases j <;> simp [bests]
  | succ e ih =>
    have hu : ∀ j, -1 ≤ leastU ws W a b (bests ws W a b e) (e + 1) j ∧ leastU ws W a b (bests ws W a b e) (e + 1) j ≤ e + 1 := fun j => by
      induction j with
      | zero => simp [leastU]; omega
      | succ j ihj =>
        rw [leastU_succ]; unfold stepF
        have := ih j
        split
        · rename_i h; omega
        · exact ihj
    intro j
    rw [bests, List.getD_eq_getElem?_getD]
    by_cases hj : j < (bests ws W a b e).length
    · rw [List.getElem?_append_left hj, ← List.getD_eq_getElem?_getD]
      have := ih j; omega
    · rw [List.getElem?_append_right (by omega)]
      cases hk : j - (bests ws W a b e).length with
      | zero => simp; have := hu (e + 1); omega
      | succ k => simp; omega
theorem slen_le {ws : List Word} (hw : ∀ v ∈ ws, v.length ≤ 1000) (fr to : Nat) (hl : ws.length ≤ 1000) : slen ws fr to ≤ 1000000 := by
  have hs : ∀ l : List Word, (∀ v ∈ l, v.length ≤ 1000) → (l.map List.length).sum ≤ 1000 * l.length := fun l => by
    induction l with
    | nil => intro _; simp
    | cons v r ih => intro h; have := ih fun x hx => h x (by simp [hx]); have := h v (by simp); simp; omega
  have := hs ((ws.take to).drop fr) fun v hv => hw v (List.mem_of_mem_take (List.mem_of_mem_drop hv))
  have h2 : ((ws.take to).drop fr).length ≤ 1000 := by simp; omega
  unfold slen
  omega
theorem fewest_fn (ws : List Word) (W a b : Nat) (hl : ws.length ≤ 1000) (hw : ∀ v ∈ ws, v.length ≤ 1000) (hW : W ≤ 1000) (ha : a ≤ 1000) (hb : b ≤ 1000) :
    Am.Fn Try.prog 25 [0] [CLL ws, I W, .agg [I a, I b]] (I ((bests ws W a b ws.length).getD ws.length 0)) := by
  refine fn_introX mixed (X := X25) c25 6 (by simp [X25]) fun Q hR hN => ?_
  simp [X25]
  have hsl : ∀ fr to, slen ws fr to ≤ 1000000 := fun fr to => slen_le hw fr to hl
  refine loopX (fun (s : Nat × List Int) vs h => s.1 ≤ ws.length ∧ bests ws W a b s.1 = s.2 ∧ s.2.length = s.1 + 1 ∧
      vs = [CLL ws, I W, .undef, .ptr 4 1 0, .undef, .own 5 1 s.2.length 1 0 s.2.length, I ((s.1 + 1 : Nat) : Int), .undef, .undef, .undef, .undef, .undef, .undef, .undef, .undef, .undef] ∧
      h = List.replicate 4 (0, .dead) ++ [(1, .var [I a, I b]), (1, .arr 1 0 false (s.2.map I))]) (fun s => ws.length - s.1) (0, [0]) ?_ ?_
  · simp
    rfl
  · rintro ⟨e, B⟩ vs h ⟨h1, h2, h3, rfl, rfl⟩ Q1 hK hX hR'
    dsimp only at h1 h2 h3
    have w1 : IntKind.i64.wrap ((e : Int) + 1 + 1) = (e : Int) + 1 + 1 := wrap_ok (by omega) (by omega)
    by_cases he : e < ws.length
    · have t1 : ((e : Int) + 1 ≤ (ws.length : Int)) := by omega
      simp [t1]
      refine loopX (fun (s : Nat × Int) vs h => s.1 ≤ e + 1 ∧ leastU ws W a b B (e + 1) s.1 = s.2 ∧ -1 ≤ s.2 ∧ s.2 ≤ e + 1 ∧
        vs = [CLL ws, I W, .undef, .ptr 4 1 0, .undef, .own 5 1 B.length 1 0 B.length, I ((e : Int) + 1), I s.2, I s.1, .undef, .undef, .undef, .undef, .undef, .undef, .undef] ∧
        h = List.replicate 4 (0, .dead) ++ [(1, .var [I a, I b]), (1, .arr 1 0 false (B.map I))]) (fun s => e + 1 - s.1) (0, -1) ?_ ?_
      · simp
        exact ⟨rfl, by omega⟩
      · rintro ⟨j, u⟩ vs h ⟨j1, j2, j3, j4, rfl, rfl⟩ Q2 hK2 hX2 hR2
        dsimp only at j1 j2 j3 j4
        by_cases hj : j < e + 1
        · have hj' : (j : Int) < (e : Int) + 1 := by omega
          obtain ⟨base, hbase, hb1, hb2⟩ : ∃ base : Int, (if j = 0 then (a : Int) + ((e + 1 : Nat) : Int) - 1 else (b : Int) + ((e + 1 : Nat) : Int) - j - 1) = base ∧ -1000 ≤ base ∧ base ≤ 3000 := ⟨_, rfl, by split <;> omega, by split <;> omega⟩
          have hcost : cost ws a b j (e + 1) = base + slen ws j (e + 1) := by unfold cost; rw [hbase]
          have v1 : IntKind.i64.wrap ((b : Int) + ((e : Int) + 1)) = (b : Int) + ((e : Int) + 1) := wrap_ok (by omega) (by omega)
          have v2 : IntKind.i64.wrap ((b : Int) + ((e : Int) + 1) - j) = (b : Int) + ((e : Int) + 1) - j := wrap_ok (by omega) (by omega)
          have v4 : IntKind.i64.wrap ((a : Int) + ((e : Int) + 1)) = (a : Int) + ((e : Int) + 1) := wrap_ok (by omega) (by omega)
          have v5 : j = 0 → IntKind.i64.wrap ((a : Int) + ((e : Int) + 1) - 1) = base := fun h0 => by rw [if_pos h0] at hbase; rw [wrap_ok (by omega) (by omega)]; omega
          have v3 : j ≠ 0 → IntKind.i64.wrap ((b : Int) + ((e : Int) + 1) - j - 1) = base := fun h0 => by rw [if_neg h0] at hbase; rw [wrap_ok (by omega) (by omega)]; omega
          have hjB : j < B.length := by omega
          have hBj : B[j] = B.getD j 0 := by simp [hjB]
          have hrg := bests_range (ws := ws) (W := W) (a := a) (b := b) e j
          rw [h2] at hrg
          obtain ⟨g, hg⟩ : ∃ g, B.getD j 0 = g := ⟨_, rfl⟩
          rw [hg] at hBj hrg
          have v6 : IntKind.i64.wrap (g + 1) = g + 1 := wrap_ok (by omega) (by omega)
          have v7 : IntKind.i64.wrap ((j : Int) + 1) = (j : Int) + 1 := wrap_ok (by omega) (by omega)
          have hst : leastU ws W a b B (e + 1) (j + 1) = if cost ws a b j (e + 1) ≤ W ∧ 0 ≤ g ∧ (u < 0 ∨ g + 1 < u) then g + 1 else u := by rw [leastU_succ, stepF, hg, j2]
          have v8 : ((j + 1 : Nat) : Int) = (j : Int) + 1 := by omega
          by_cases hj0 : j = 0
          case' pos =>
            have hz : (j : Int) = 0 := by omega
            simp [hz, hj', v1, v4, v5 hj0, show (0 : Int) < (e : Int) + 1 by omega]
          case' neg =>
            simp [hj', v1, v2, v3 hj0, hj0]
          all_goals
            refine loopX (fun (k : Nat) vs h => j ≤ k ∧ k ≤ e + 1 ∧
              vs = [CLL ws, I W, .undef, .ptr 4 1 0, .undef, .own 5 1 B.length 1 0 B.length, I ((e : Int) + 1), I u, I j, I (base + slen ws j k), I k, .undef, .undef, .undef, .undef, .undef] ∧
              h = List.replicate 4 (0, .dead) ++ [(1, .var [I a, I b]), (1, .arr 1 0 false (B.map I))]) (fun k => e + 1 - k) j ?_ ?_
            · simp [slen_self]
              try omega
            · rintro k vs h ⟨k1, k2, rfl, rfl⟩ Q3 hK3 hX3 hR3
              have hs1 := hsl j k
              have hs2 := hsl j (k + 1)
              by_cases hk : k < e + 1
              · have hk' : (k : Int) < (e : Int) + 1 := by omega
                have hkl : k < ws.length := by omega
                have hsu := slen_succ (ws := ws) k1 hkl
                have u1 : IntKind.i64.wrap (base + (slen ws j k : Int) + (ws[k].length : Int)) = base + (slen ws j (k + 1) : Int) := by rw [wrap_ok (by omega) (by omega)]; omega
                have u2 : IntKind.i64.wrap ((k : Int) + 1) = (k : Int) + 1 := wrap_ok (by omega) (by omega)
                simp [hk', hkl, u1, u2]
                refine hK3 (k + 1) _ _ (by omega) ?_
                simp
                omega
              · obtain rfl : k = e + 1 := by omega
                simp
                refine hX3 _ _ _ ?_
                rw [← hcost]
                by_cases q1 : cost ws a b j (e + 1) ≤ W
                · by_cases q2 : 0 ≤ g
                  · by_cases q3 : u < 0
                    · rw [if_pos ⟨q1, q2, .inl q3⟩] at hst
                      simp [q1, q2, q3, hBj, hjB, v6, v7]
                      refine hK2 (j + 1, g + 1) _ _ (by dsimp only; omega) ?_
                      simp [hst]
                      omega
                    · by_cases q4 : g + 1 < u
                      · rw [if_pos ⟨q1, q2, .inr q4⟩] at hst
                        simp [q1, q2, q3, q4, hBj, hjB, v6, v7]
                        refine hK2 (j + 1, g + 1) _ _ (by dsimp only; omega) ?_
                        simp [hst]
                        omega
                      · rw [if_neg (by omega)] at hst
                        simp [q1, q2, q3, q4, hBj, hjB, v6, v7]
                        refine hK2 (j + 1, u) _ _ (by dsimp only; omega) ?_
                        simp [hst]
                        omega
                  · rw [if_neg (by omega)] at hst
                    simp [q1, q2, hBj, hjB, v7]
                    refine hK2 (j + 1, u) _ _ (by dsimp only; omega) ?_
                    simp [hst]
                    omega
                · rw [if_neg (by omega)] at hst
                  simp [q1, v7]
                  refine hK2 (j + 1, u) _ _ (by dsimp only; omega) ?_
                  simp [hst]
                  omega
        · obtain rfl : j = e + 1 := by omega
          simp
          refine hX2 _ _ _ ?_
          have b1 : (e + 1 + 1) * 8 ≤ 140737488355328 := by omega
          simp [h3, b1, w1]
          refine hK (e + 1, B ++ [u]) _ _ (by dsimp only; omega) ?_
          simp [h3, bests, h2, j2]
          omega
    · obtain rfl : e = ws.length := by omega
      have t1 : ¬ ((ws.length : Int) + 1 ≤ (ws.length : Int)) := by omega
      have t2 : ((ws.length : Int) < (ws.length : Int) + 1) := by omega
      have t3 : ws.length < B.length := by omega
      simp [t1]
      refine hX _ _ _ ?_
      simp [h3, t2, t3]
      refine hR _ _ ?_
      simp [X25, h2, t3]
end Go.Proofs.Ytnlapjkfbodbkaa.L
