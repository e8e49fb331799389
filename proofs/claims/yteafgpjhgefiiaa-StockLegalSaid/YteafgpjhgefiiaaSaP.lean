/-
  Chapter 30, plain: stock and wanted sheets.
-/
import Derived.KernelRfl
namespace Go.Proofs.Yteafgpjhgefiiaa.S
set_option linter.unusedSimpArgs false
set_option linter.unusedVariables false
set_option linter.unusedSectionVars false
/-- the first place from i on that is not used and holds x -/
def pickG (u : List Int) (x : Nat) : Nat → List Nat → Int
  | _, [] => -1
  | i, a :: r => if (i : Int) ∉ u ∧ a = x then i else pickG u x (i + 1) r
def pick (s : List Nat) (u : List Int) (x : Nat) : Int := pickG u x 0 s
def fromG (s : List Nat) : List Int → List Nat → List Int
  | u, [] => u
  | u, x :: r => fromG s (u ++ [pick s u x]) r
def froms (s w : List Nat) : List Int := fromG s [] w
def miss (l : List Int) : Nat := l.countP (· < 0)
def takeG (u : List Int) : Nat → List Nat → List Nat
  | _, [] => []
  | i, a :: r => if (i : Int) ∈ u then takeG u (i + 1) r else a :: takeG u (i + 1) r
def take (s : List Nat) (u : List Int) : List Nat := takeG u 0 s
theorem fromG_snoc (s : List Nat) (x : Nat) : ∀ (w : List Nat) (u : List Int), fromG s u (w ++ [x]) = fromG s u w ++ [pick s (fromG s u w) x]
  | [], u => rfl
  | y :: w, u => by simp only [List.cons_append, fromG]; exact fromG_snoc s x w _
theorem fromG_append (s : List Nat) : ∀ (v w : List Nat) (u : List Int), fromG s u (v ++ w) = fromG s (fromG s u v) w
  | [], w, u => rfl
  | y :: v, w, u => by simp only [List.cons_append, fromG]; exact fromG_append s v w _
theorem fromG_pre (s : List Nat) : ∀ (w : List Nat) (u : List Int), u <+: fromG s u w
  | [], u => List.prefix_refl _
  | y :: w, u => (List.prefix_append u _).trans (fromG_pre s w _)
theorem fromG_len (s : List Nat) : ∀ (w : List Nat) (u : List Int), (fromG s u w).length = u.length + w.length
  | [], u => rfl
  | y :: w, u => by simp only [fromG]; rw [fromG_len s w]; simp; omega
theorem froms_len (s w : List Nat) : (froms s w).length = w.length := by rw [froms, fromG_len]; simp
theorem froms_snoc (s w : List Nat) (x : Nat) : froms s (w ++ [x]) = froms s w ++ [pick s (froms s w) x] := fromG_snoc s x w []
/-- how many places with y are used -/
def cntU (u : List Int) (y : Nat) : Nat → List Nat → Nat
  | _, [] => 0
  | i, a :: r => (if (i : Int) ∈ u ∧ a = y then 1 else 0) + cntU u y (i + 1) r
theorem cntU_le (u : List Int) (y : Nat) : ∀ (s : List Nat) (i : Nat), cntU u y i s ≤ s.count y
  | [], i => Nat.le_refl _
  | a :: r, i => by
    have := cntU_le u y r (i + 1)
    simp only [cntU, List.count_cons]
    by_cases h : a = y
    · subst h; simp; split <;> omega
    · simp [h]; omega
theorem pickG_neg {u : List Int} {x : Nat} : ∀ {s : List Nat} {i : Nat}, (pickG u x i s < 0 ↔ cntU u x i s = s.count x)
  | [], i => by simp [pickG, cntU]
  | a :: r, i => by
    have h1 := cntU_le u x r (i + 1)
    have ih := pickG_neg (u := u) (x := x) (s := r) (i := i + 1)
    simp only [pickG, cntU, List.count_cons]
    by_cases ha : a = x
    · subst ha
      by_cases hu : (i : Int) ∈ u
      · simp [hu]; rw [ih]; omega
      · simp [hu]; omega
    · simp [ha]; exact ih
theorem pickG_range {u : List Int} {x : Nat} : ∀ {s : List Nat} {i : Nat}, pickG u x i s = -1 ∨ ∃ k : Nat, pickG u x i s = (i + k : Nat) ∧ s[k]? = some x ∧ ((i + k : Nat) : Int) ∉ u
  | [], i => .inl rfl
  | a :: r, i => by
    simp only [pickG]
    split
    · rename_i h; exact .inr ⟨0, rfl, by simp [h.2], h.1⟩
    · rcases pickG_range (u := u) (x := x) (s := r) (i := i + 1) with h | ⟨k, h1, h2, h3⟩
      · exact .inl h
      · exact .inr ⟨k + 1, by rw [h1]; omega, by simpa using h2, by rw [show i + (k + 1) = i + 1 + k by omega]; exact h3⟩
theorem cntU_add {u : List Int} {x y : Nat} : ∀ {s : List Nat} {i k : Nat}, s[k]? = some x → ((i + k : Nat) : Int) ∉ u → cntU (u ++ [((i + k : Nat) : Int)]) y i s = cntU u y i s + if y = x then 1 else 0
  | [], i, k, h, _ => by simp at h
  | a :: r, i, 0, h, hu => by
    simp at h; subst h
    simp only [cntU, Nat.add_zero]
    have e : ∀ (r : List Nat) (j : Nat), i < j → cntU (u ++ [(i : Int)]) y j r = cntU u y j r := fun r => by
      induction r with
      | nil => intro j _; rfl
      | cons b r ih =>
        intro j hj
        simp only [cntU]
        rw [ih (j + 1) (by omega)]
        have : ((j : Int) ∈ u ++ [(i : Int)]) ↔ (j : Int) ∈ u := by simp; omega
        simp only [this]
    rw [e r (i + 1) (by omega)]
    simp at hu
    by_cases hy : a = y
    · subst hy; simp [hu]; omega
    · simp [hy, Ne.symm hy]
  | a :: r, i, k + 1, h, hu => by
    have ih := cntU_add (u := u) (y := y) (s := r) (i := i + 1) (k := k) (x := x) (by simpa using h) (by rw [show i + 1 + k = i + (k + 1) by omega]; exact hu)
    rw [show i + 1 + k = i + (k + 1) by omega] at ih
    simp only [cntU]
    rw [ih]
    have : ((i : Int) ∈ u ++ [((i + (k + 1) : Nat) : Int)]) ↔ (i : Int) ∈ u := by simp; omega
    simp only [this]
    omega
theorem cntU_neg {u : List Int} {y : Nat} : ∀ {s : List Nat} {i : Nat}, cntU (u ++ [-1]) y i s = cntU u y i s
  | [], i => rfl
  | a :: r, i => by
    simp only [cntU]
    rw [cntU_neg (s := r)]
    have : ((i : Int) ∈ u ++ [(-1 : Int)]) ↔ (i : Int) ∈ u := by simp
    simp only [this]
theorem snoc_ind {P : List Nat → Prop} (h0 : P []) (h1 : ∀ w x, P w → P (w ++ [x])) (w : List Nat) : P w := by
  have : ∀ l : List Nat, P l.reverse := fun l => by
    induction l with
    | nil => exact h0
    | cons x l ih => rw [List.reverse_cons]; exact h1 _ _ ih
  have := this w.reverse
  rwa [List.reverse_reverse] at this
/-- as many are used as there are, or are wanted -/
theorem used_min (s : List Nat) (w : List Nat) : ∀ y, cntU (froms s w) y 0 s = min (w.count y) (s.count y) := by
  refine snoc_ind (P := fun w => ∀ y, cntU (froms s w) y 0 s = min (w.count y) (s.count y)) (fun y => ?_) (fun w x ih y => ?_) w
  · have : ∀ (s : List Nat) (i : Nat), cntU [] y i s = 0 := fun s => by
      induction s with
      | nil => intro i; rfl
      | cons a r ih => intro i; simp [cntU, ih]
    simp [froms, fromG, this]
  · rw [froms_snoc, List.count_append]
    have hx := ih x
    have hle := cntU_le (froms s w) x s 0
    have hneg := pickG_neg (u := froms s w) (x := x) (s := s) (i := 0)
    have hc : List.count y [x] = if y = x then 1 else 0 := by
      by_cases h : y = x
      · simp [h]
      · simp [h, Ne.symm h]
    rcases pickG_range (u := froms s w) (x := x) (s := s) (i := 0) with h | ⟨k, h1, h2, h3⟩
    · unfold pick
      rw [h, cntU_neg, ih y, hc]
      have := hneg.1 (by omega)
      by_cases hy : y = x
      · subst hy; simp; omega
      · simp [hy]
    · unfold pick
      rw [h1, cntU_add h2 h3, ih y, hc]
      have : ¬ cntU (froms s w) x 0 s = s.count x := fun e => by have := hneg.2 e; omega
      by_cases hy : y = x
      · subst hy; simp; omega
      · simp [hy]
/-- the n-th is missing just where there are too few equal ones -/
theorem pick_miss (s w : List Nat) (x : Nat) : pick s (froms s w) x < 0 ↔ s.count x ≤ w.count x := by
  unfold pick
  rw [pickG_neg, used_min]
  omega
theorem miss_snoc (s w : List Nat) (x : Nat) : miss (froms s (w ++ [x])) = miss (froms s w) + if s.count x ≤ w.count x then 1 else 0 := by
  rw [froms_snoc]
  unfold miss
  rw [List.countP_append]
  congr 1
  by_cases h : s.count x ≤ w.count x
  · simp [h, (pick_miss s w x).2 h]
  · have : ¬ pick s (froms s w) x < 0 := fun e => h ((pick_miss s w x).1 e)
    simp [h, this]
/-- how many are missing, from the numbers of equal ones alone -/
def lack (s w : List Nat) : Nat := ((List.range 6).map fun y => w.count y - s.count y).sum
theorem sum_bump (f g : Nat → Nat) (x : Nat) (d : Nat) (h : ∀ y, g y = f y + if y = x then d else 0) : ∀ n, x < n → ((List.range n).map g).sum = ((List.range n).map f).sum + d
  | 0, hn => by omega
  | n + 1, hn => by
    rw [List.range_succ]
    simp only [List.map_append, List.map_cons, List.map_nil, List.sum_append, List.sum_cons, List.sum_nil]
    by_cases hx : x = n
    · subst hx
      have : ∀ m, m ≤ x → ((List.range m).map g).sum = ((List.range m).map f).sum := fun m => by
        induction m with
        | zero => intro _; rfl
        | succ m ih =>
          intro hm
          rw [List.range_succ]
          simp only [List.map_append, List.map_cons, List.map_nil, List.sum_append, List.sum_cons, List.sum_nil]
          rw [ih (by omega), h m, if_neg (by omega)]; omega
      rw [this x (Nat.le_refl _), h x, if_pos rfl]; omega
    · rw [sum_bump f g x d h n (by omega), h n, if_neg (by omega)]; omega
theorem miss_lack (s w : List Nat) (hw : ∀ x ∈ w, x < 6) : miss (froms s w) = lack s w := by
  revert hw
  refine snoc_ind (P := fun w => (∀ x ∈ w, x < 6) → miss (froms s w) = lack s w) (fun _ => ?_) (fun w x ih hw => ?_) w
  · simp [froms, fromG, miss, lack]; rfl
  · rw [miss_snoc, ih fun y hy => hw y (by simp [hy])]
    unfold lack
    symm
    refine sum_bump _ _ x _ (fun y => ?_) 6 (hw x (by simp))
    have hc : List.count y [x] = if y = x then 1 else 0 := by
      by_cases h : y = x
      · simp [h]
      · simp [h, Ne.symm h]
    rw [List.count_append, hc]
    by_cases hy : y = x
    · subst hy; simp; split <;> omega
    · simp [hy]
/-- what is left -/
theorem takeG_count (u : List Int) (y : Nat) : ∀ (s : List Nat) (i : Nat), (takeG u i s).count y + cntU u y i s = s.count y
  | [], i => rfl
  | a :: r, i => by
    have ih := takeG_count u y r (i + 1)
    simp only [takeG, cntU, List.count_cons]
    by_cases hu : (i : Int) ∈ u
    · simp [hu]
      by_cases h : a = y <;> simp [h] <;> omega
    · simp [hu, List.count_cons]
      by_cases h : a = y <;> simp [h] <;> omega
theorem take_count (s w : List Nat) (y : Nat) : (take s (froms s w)).count y = s.count y - w.count y := by
  have h1 := takeG_count (froms s w) y s 0
  rw [used_min] at h1
  unfold take; omega
end Go.Proofs.Yteafgpjhgefiiaa.S
