/-
  Chapter 23: what Split computes (plain).
-/
import Derived.Test.YtnipkbhgaljcoaaVdA
namespace Go.Proofs.Ytnipkbhgaljcoaa.V
set_option linter.unusedSimpArgs false
set_option linter.unusedVariables false
set_option linter.unusedSectionVars false
open Go.Proofs.Ytnipkbhgaljcoaa.Am
def oks (c : List (List Int)) (b : List Bool) (m : Int) (n i j : Nat) : Bool := decide (1 ≤ cst c i j) && decide (cst c i j ≤ m) && (decide (j = n) || b.getD j false)
def inn (ok : Nat → Bool) : Nat → List (Int × Int) → Int × Int
  | _, [] => (-1, 0)
  | j, x :: t => if x.1 < 0 ∨ ok j = false then inn ok (j + 1) t else if (inn ok (j + 1) t).1 < 0 ∨ x.1 + 1 < (inn ok (j + 1) t).1 then (x.1 + 1, (j : Int)) else inn ok (j + 1) t
def sol (ok : Nat → Nat → Bool) (n : Nat) : Nat → List (Int × Int)
  | 0 => [(0, 0)]
  | k + 1 => inn (ok (n - k - 1)) (n - k) (sol ok n k) :: sol ok n k
theorem sol_len (ok : Nat → Nat → Bool) (n : Nat) : ∀ k, (sol ok n k).length = k + 1
  | 0 => rfl
  | k + 1 => by simp [sol, sol_len ok n k]
def ent (ok : Nat → Nat → Bool) (n i : Nat) : Int × Int := (sol ok n (n - i)).headD (0, 0)
theorem sol_get (ok : Nat → Nat → Bool) (n : Nat) : ∀ k, k ≤ n → ∀ d, d ≤ k → (sol ok n k)[d]? = some (ent ok n (n - k + d))
  | 0, _, d, hd => by
    obtain rfl : d = 0 := by omega
    simp [sol, ent]
  | k + 1, hk, d, hd => by
    cases d with
    | zero => simp only [sol, List.getElem?_cons_zero, ent, Nat.add_zero, show n - (n - (k + 1)) = k + 1 by omega, List.headD_cons]
    | succ d =>
      simp only [sol, List.getElem?_cons_succ]
      rw [sol_get ok n k (by omega) d (by omega), show n - k + d = n - (k + 1) + (d + 1) by omega]
theorem inn_spec (ok : Nat → Bool) : ∀ (j : Nat) (l : List (Int × Int)),
    (inn ok j l = (-1, 0) ∧ ∀ (d : Nat) x, l[d]? = some x → x.1 < 0 ∨ ok (j + d) = false) ∨
    (∃ (d : Nat) (x : Int × Int), l[d]? = some x ∧ 0 ≤ x.1 ∧ ok (j + d) = true ∧ inn ok j l = (x.1 + 1, ((j + d : Nat) : Int)) ∧
      ∀ (d' : Nat) x', l[d']? = some x' → 0 ≤ x'.1 → ok (j + d') = true → x.1 ≤ x'.1 ∧ (x'.1 = x.1 → d' ≤ d))
  | j, [] => .inl ⟨rfl, by simp⟩
  | j, x :: t => by
    have ih := inn_spec ok (j + 1) t
    have e : ∀ d, j + 1 + d = j + (d + 1) := fun d => by omega
    simp only [e] at ih
    by_cases hx : x.1 < 0 ∨ ok j = false
    · simp only [inn, if_pos hx]
      rcases ih with ⟨h1, h2⟩ | ⟨d, y, h1, h2, h3, h4, h5⟩
      · refine .inl ⟨h1, fun d y hy => ?_⟩
        cases d with
        | zero => simp at hy; subst hy; exact hx
        | succ d => exact h2 d y (by simpa using hy)
      · refine .inr ⟨d + 1, y, by simpa using h1, h2, h3, h4, fun d' y' hy' h6 h7 => ?_⟩
        cases d' with
        | zero =>
          simp at hy'; subst hy'
          rcases hx with hx | hx
          · omega
          · rw [Nat.add_zero] at h7; rw [h7] at hx; cases hx
        | succ d' =>
          have := h5 d' y' (by simpa using hy') h6 h7
          exact ⟨this.1, fun hh => by have := this.2 hh; omega⟩
    · have hx1 : 0 ≤ x.1 := by
        have : ¬ x.1 < 0 := fun h => hx (.inl h)
        omega
      have hx2 : ok j = true := by cases h : ok j
                                   · exact absurd (.inr h) hx
                                   · rfl
      simp only [inn, if_neg hx]
      rcases ih with ⟨h1, h2⟩ | ⟨d, y, h1, h2, h3, h4, h5⟩
      · rw [h1, if_pos (.inl (by show (-1 : Int) < 0; omega))]
        refine .inr ⟨0, x, rfl, hx1, by simpa using hx2, by simp, fun d' y' hy' h6 h7 => ?_⟩
        cases d' with
        | zero => simp at hy'; subst hy'; exact ⟨Int.le_refl _, fun _ => Nat.le_refl _⟩
        | succ d' =>
          rcases h2 d' y' (by simpa using hy') with h8 | h8
          · omega
          · rw [h8] at h7; cases h7
      · rw [h4]
        by_cases hc : (y.1 + 1 < 0 ∨ x.1 + 1 < y.1 + 1)
        · rw [if_pos hc]
          refine .inr ⟨0, x, rfl, hx1, by simpa using hx2, by simp, fun d' y' hy' h6 h7 => ?_⟩
          cases d' with
          | zero => simp at hy'; subst hy'; exact ⟨Int.le_refl _, fun _ => Nat.le_refl _⟩
          | succ d' =>
            have := h5 d' y' (by simpa using hy') h6 h7
            exact ⟨by omega, fun _ => by omega⟩
        · rw [if_neg hc]
          refine .inr ⟨d + 1, y, by simpa using h1, h2, h3, rfl, fun d' y' hy' h6 h7 => ?_⟩
          cases d' with
          | zero =>
            simp at hy'; subst hy'
            exact ⟨by omega, fun _ => by omega⟩
          | succ d' =>
            have := h5 d' y' (by simpa using hy') h6 h7
            exact ⟨this.1, fun hh => by have := this.2 hh; omega⟩
/-- a 1 stays -/
theorem inn_one (ok : Nat → Bool) : ∀ (l : List (Int × Int)) (j : Nat) (t : List (Int × Int)), (inn ok (j + l.length) t).1 = 1 → inn ok j (l ++ t) = inn ok (j + l.length) t
  | [], _, _, _ => by simp
  | x :: l, j, t, h => by
    have e : j + (x :: l).length = j + 1 + l.length := by simp; omega
    rw [e] at h ⊢
    have ih := inn_one ok l (j + 1) t h
    simp only [List.cons_append, inn, ih]
    split
    · rfl
    · rename_i hx
      rw [h, if_neg (by omega)]
theorem ent_n (ok : Nat → Nat → Bool) (n : Nat) : ent ok n n = (0, 0) := by simp [ent, sol]
/-- what is known of a block's entry -/
theorem ent_spec (ok : Nat → Nat → Bool) (n i : Nat) (hi : i < n) :
    (ent ok n i = (-1, 0) ∧ ∀ j, i < j → j ≤ n → (ent ok n j).1 < 0 ∨ ok i j = false) ∨
    (∃ j, i < j ∧ j ≤ n ∧ 0 ≤ (ent ok n j).1 ∧ ok i j = true ∧ ent ok n i = ((ent ok n j).1 + 1, (j : Int)) ∧
      ∀ j', i < j' → j' ≤ n → 0 ≤ (ent ok n j').1 → ok i j' = true → (ent ok n j).1 ≤ (ent ok n j').1 ∧ ((ent ok n j').1 = (ent ok n j).1 → j' ≤ j)) := by
  obtain ⟨k, hk⟩ : ∃ k, n - i = k + 1 := ⟨n - i - 1, by omega⟩
  have he : ent ok n i = inn (ok i) (i + 1) (sol ok n k) := by
    unfold ent; rw [hk]
    simp only [sol, List.headD_cons]
    rw [show n - k - 1 = i by omega, show n - k = i + 1 by omega]
  have hg : ∀ j, i < j → j ≤ n → (sol ok n k)[j - i - 1]? = some (ent ok n j) := fun j h1 h2 => by
    rw [sol_get ok n k (by omega) _ (by omega), show n - k + (j - i - 1) = j by omega]
  have hl := sol_len ok n k
  rcases inn_spec (ok i) (i + 1) (sol ok n k) with ⟨h1, h2⟩ | ⟨d, x, h1, h2, h3, h4, h5⟩
  · refine .inl ⟨he.trans h1, fun j hj hj' => ?_⟩
    have := h2 _ _ (hg j hj hj')
    rwa [show i + 1 + (j - i - 1) = j by omega] at this
  · have hd : d < k + 1 := by rw [← hl]; exact (List.getElem?_eq_some_iff.1 h1).1
    have hx := hg (i + 1 + d) (by omega) (by omega)
    rw [show i + 1 + d - i - 1 = d by omega, h1] at hx
    cases hx
    refine .inr ⟨i + 1 + d, by omega, by omega, h2, h3, he.trans h4, fun j' hj hj' h6 h7 => ?_⟩
    have := h5 _ _ (hg j' hj hj') h6 (by rwa [show i + 1 + (j' - i - 1) = j' by omega])
    exact ⟨this.1, fun hh => by have := this.2 hh; omega⟩
/-- the ends, from a block on -/
def path (ok : Nat → Nat → Bool) (n : Nat) : Nat → Nat → List Int
  | 0, _ => []
  | f + 1, i => if i < n then (ent ok n i).2 :: path ok n f (ent ok n i).2.toNat else []
def chain (ok : Nat → Nat → Bool) (n : Nat) : Nat → List Int → Prop
  | f, [] => f = n
  | f, e :: r => (f : Int) < e ∧ e ≤ n ∧ ok f e.toNat = true ∧ chain ok n e.toNat r
theorem ent_le (ok : Nat → Nat → Bool) (n : Nat) : ∀ (k i : Nat), n - i = k → i ≤ n → -1 ≤ (ent ok n i).1 ∧ (ent ok n i).1 ≤ (k : Int) := by
  intro k
  induction k using Nat.strongRecOn with
  | ind k ih =>
    intro i hk hi
    rcases Nat.lt_or_ge i n with h | h
    · rcases ent_spec ok n i h with ⟨h1, _⟩ | ⟨j, h1, h2, h3, h4, h5, _⟩
      · rw [h1]; exact ⟨Int.le_refl _, by show (-1 : Int) ≤ _; omega⟩
      · have := ih (n - j) (by omega) j rfl h2
        rw [h5]; exact ⟨by show -1 ≤ _ + 1; omega, by show _ + 1 ≤ _; omega⟩
    · obtain rfl : i = n := by omega
      rw [ent_n]; exact ⟨by show (-1 : Int) ≤ 0; omega, by show (0 : Int) ≤ _; omega⟩
theorem path_chain (ok : Nat → Nat → Bool) (n : Nat) : ∀ (f i : Nat), n - i ≤ f → i ≤ n → 0 ≤ (ent ok n i).1 → chain ok n i (path ok n f i) ∧ ((path ok n f i).length : Int) = (ent ok n i).1
  | 0, i, hf, hi, h0 => by
    obtain rfl : i = n := by omega
    simp [path, chain, ent_n]
  | f + 1, i, hf, hi, h0 => by
    unfold path
    split
    · rename_i h
      rcases ent_spec ok n i h with ⟨h1, _⟩ | ⟨j, h1, h2, h3, h4, h5, _⟩
      · rw [h1] at h0; exact absurd h0 (by show ¬ (0 : Int) ≤ -1; omega)
      · have ih := path_chain ok n f j (by omega) h2 h3
        rw [h5]
        refine ⟨⟨by show (i : Int) < (j : Int); omega, by show (j : Int) ≤ n; omega, h4, ih.1⟩, ?_⟩
        have := ih.2
        simp only [List.length_cons, Int.natCast_add]
        show ((path ok n f j).length : Int) + 1 = _ + 1
        rw [this]
    · obtain rfl : i = n := by omega
      simp [chain, ent_n]
/-- a division is not better -/
def lexGe : List Int → List Int → Prop
  | x :: xs, y :: ys => y < x ∨ (x = y ∧ lexGe xs ys)
  | _, _ => True
theorem chain_opt (ok : Nat → Nat → Bool) (n : Nat) : ∀ (ends : List Int) (i f : Nat), n - i ≤ f → i ≤ n → chain ok n i ends → 0 ≤ (ent ok n i).1 ∧ (ent ok n i).1 ≤ ends.length ∧ ((ends.length : Int) = (ent ok n i).1 → lexGe (path ok n f i) ends)
  | [], i, f, hf, hi, hc => by
    simp only [chain] at hc; subst hc
    simp [ent_n]
    cases f <;> simp [path, lexGe]
  | e :: r, i, f, hf, hi, hc => by
    obtain ⟨h1, h2, h3, h4⟩ := hc
    obtain ⟨j, rfl⟩ := Int.eq_ofNat_of_zero_le (show 0 ≤ e by omega)
    have e2 : ((j : Int)).toNat = j := rfl
    rw [e2] at h3 h4
    have hi' : i < n := by omega
    rcases ent_spec ok n i hi' with ⟨h5, h6⟩ | ⟨j', g1, g2, g3, g4, g5, g6⟩
    · have ih := chain_opt ok n r j (n - j) (Nat.le_refl _) (by omega) h4
      rcases h6 j (by omega) (by omega) with h7 | h7
      · omega
      · rw [h7] at h3; cases h3
    · have ih0 := chain_opt ok n r j (n - j) (Nat.le_refl _) (by omega) h4
      have h7 := g6 j (by omega) (by omega) ih0.1 h3
      rw [g5]
      refine ⟨by show 0 ≤ _ + 1; omega, by show _ + 1 ≤ ((r.length + 1 : Nat) : Int); omega, fun hl => ?_⟩
      have hl' : (r.length : Int) = (ent ok n j').1 := by
        have : ((r.length + 1 : Nat) : Int) = (ent ok n j').1 + 1 := hl
        omega
      cases f with
      | zero => omega
      | succ f =>
        unfold path
        rw [if_pos hi', g5]
        have h8 := h7.2 (by omega)
        show (j : Int) < (j' : Int) ∨ ((j' : Int) = j ∧ lexGe (path ok n f j') r)
        rcases Nat.lt_or_ge j j' with h9 | h9
        · exact .inl (by omega)
        · obtain rfl : j' = j := by omega
          exact .inr ⟨rfl, (chain_opt ok n r j' f (by omega) (by omega) h4).2.2 hl'⟩
end Go.Proofs.Ytnipkbhgaljcoaa.V
