/-
  Chapter 20: the law of lines.
-/
import Derived.Test.YtfpkcjjgooigbaaQDdA
namespace Go.Proofs.Ytfpkcjjgooigbaa.C
set_option linter.unusedSimpArgs false
set_option linter.unusedVariables false
set_option linter.unusedSectionVars false
open Go.Proofs.Ytfpkcjjgooigbaa.Am
open Go.Proofs.Ytfpkcjjgooigbaa.L (mixed wrap_ok I U CL CLL UCL Word clean words zeros ic wd brk brkG longG)
set_option maxHeartbeats 8000000
theorem Lines_fn (cols most : Int) (l : List (List Int)) (w : Int) (hc : 0 ≤ cols ∧ cols ≤ 255) (hm : 0 ≤ most ∧ most ≤ 255) (hl : ∀ x ∈ l, ∀ a ∈ x, 0 ≤ a ∧ a ≤ 255) (hw : 0 ≤ w ∧ w ≤ 255) :
    Am.Fn Try.prog 5 [0] [RawP cols most l, U w] (.bool true) := by
  obtain ⟨rows, M, hM⟩ := Made_md cols most l hc hm hl
  obtain ⟨c, w1, w2, w3, w4⟩ := mod_ok hw 37 (by omega)
  have n1 := M.n1
  have n4 := M.n4
  have c4 := M.ev'.c4
  obtain ⟨W, hW⟩ : ∃ W : Nat, W = 24 + c := ⟨_, rfl⟩
  have w5 : IntKind.i64.wrap (24 + (c : Int)) = (W : Int) := by rw [wrap_ok (by omega) (by omega)]; omega
  have A := lay_fn rows W (by have := M.n4; omega) fun r hr x hx => by have := M.le r hr x hx; omega
  have ho := lines M (w := W) (by omega) rfl
  have hs := lay_short M (w := W) (by omega)
  generalize layR rows W = a at A ho hs
  obtain ⟨aL, af, ae⟩ := a
  dsimp only at ho hs
  obtain ⟨ho1, ho2⟩ := ho
  refine fn_introX mixed (X := X5) c5 6 (by simp [X5]) fun Q hR hN => ?_
  simp [X5]
  refine call_of sanity_fn ?_
  simp
  refine call_of hM ?_
  simp [w1, w3, w4, w5]
  refine call_of A ?_
  by_cases e0 : ae = 0
  · obtain ⟨h1, h2⟩ := ho2 e0
    subst e0
    have n0 : ¬ rows = [] := List.length_pos_iff.1 (by omega)
    have hp : 0 < rows.length := by omega
    have hcn := nc_eq hp
    obtain ⟨N, hN2⟩ : ∃ N, N = rows.length * nc rows := ⟨_, rfl⟩
    have hN3 : rows.length * nc rows ≤ 4 * 4 := Nat.mul_le_mul n4 c4
    have hmul : IntKind.i64.wrap ((rows.length : Int) * (nc rows : Int)) = (N : Int) := by
      rw [hN2]
      have : ((rows.length : Int) * (nc rows : Int)) = ((rows.length * nc rows : Nat) : Int) := by simp
      rw [this, wrap_ok (by omega) (by omega)]
    rw [← hN2] at h1
    have hf : af = 1 ∨ af = 2 ∨ af = 3 := by rcases h1 with ⟨h, _⟩ | ⟨h, _⟩ | ⟨h, _⟩ <;> omega
    have e1 : af = 1 → ((aL.length = rows.length) = True) ∧ (((aL.length : Int) = (rows.length : Int)) = True) := fun h => ⟨eq_true (by omega), eq_true (by omega)⟩
    have e2 : af = 2 → ((aL.length = N) = True) ∧ (((aL.length : Int) = (N : Int)) = True) := fun h => ⟨eq_true (by omega), eq_true (by omega)⟩
    have e3 : af = 3 → ((aL.length < N) = False) ∧ (((aL.length : Int) < (N : Int)) = False) := fun h => ⟨eq_false (by omega), eq_false (by omega)⟩
    have g4 : (af < 1) = False := eq_false (by omega)
    have g5 : (3 < af) = False := eq_false (by omega)
    rcases hf with hf | hf | hf
    case' inl =>
      have g1 : (af = 1) = True := eq_true hf
      have g2 : (af = 2) = False := eq_false (by omega)
      have g3 : (af = 3) = False := eq_false (by omega)
      simp [n0, hp, hcn, hmul, g1, g2, g3, g4, g5, e1 hf]
    case' inr.inl =>
      have g1 : (af = 1) = False := eq_false (by omega)
      have g2 : (af = 2) = True := eq_true hf
      have g3 : (af = 3) = False := eq_false (by omega)
      simp [n0, hp, hcn, hmul, g1, g2, g3, g4, g5, e2 hf]
    case' inr.inr =>
      have g1 : (af = 1) = False := eq_false (by omega)
      have g2 : (af = 2) = False := eq_false (by omega)
      have g3 : (af = 3) = True := eq_true hf
      simp [n0, hp, hcn, hmul, g1, g2, g3, g4, g5, e3 hf]
    all_goals
      refine loopX (fun (k : Nat) vs h => k ≤ aL.length ∧ vs = [.undef, .undef, .undef, .undef, .bool true, .undef, I W, .ptr 4 1 0, .undef, I k, .undef, .undef, .undef, .undef, .undef] ∧ h = [dd, dd, dd, dd, (1, .var [CLL aL, I af, I 0]), dd]) (fun k => aL.length - k) 0 ?_ ?_
      · simp
      · rintro k vs h ⟨q1, rfl, rfl⟩ Q1 hK hX hR'
        by_cases hk : k < aL.length
        · obtain ⟨r1, p, z, r2, r3⟩ := h2 _ (List.getElem_mem hk)
          have t1 : ¬ W < aL[k].length := by omega
          have t2 : ¬ (W : Int) < (aL[k].length : Int) := by omega
          have w2 : IntKind.i64.wrap ((k : Int) + 1) = ((k + 1 : Nat) : Int) := wrap_ok (by omega) (by omega)
          have hlen : aL[k].length = p.length + 1 := by rw [r2]; simp
          have w3 : IntKind.i64.wrap (p.length : Int) = (p.length : Int) := wrap_ok (by omega) (by omega)
          have hget : aL[k][p.length]? = some z := by rw [r2]; simp
          rw [hlen] at t1 t2
          have t0 : ¬ (p.length : Int) + 1 = 0 := by omega
          have t3 : ¬ (W : Int) < (p.length : Int) + 1 := by omega
          have t4 : (p.length : Int) < (aL[k].length : Int) := by omega
          have t5 : p.length < aL[k].length := by omega
          have hget' : aL[k][p.length] = z := by
            have := List.getElem?_eq_getElem t5
            rw [hget] at this; exact (Option.some.inj this).symm
          simp [hk, t0, t1, t2, t3, hget', w2, hlen, w3, hget, r3]
          refine hK (k + 1) _ _ (by omega) ?_
          simp
          omega
        · obtain rfl : k = aL.length := by omega
          simp
          refine hX _ _ _ ?_
          simp
          refine hR _ _ ?_
          simp [X5]
  · obtain ⟨h3, h4⟩ := ho1 e0
    subst h3 h4
    simp [e0]
    refine hR _ _ ?_
    simp [X5]
end Go.Proofs.Ytfpkcjjgooigbaa.C
