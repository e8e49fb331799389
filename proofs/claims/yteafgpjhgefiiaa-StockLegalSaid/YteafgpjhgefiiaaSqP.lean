/-
  Chapter 30, plain: what the laws ask.
-/
import Derived.Test.YteafgpjhgefiiaaSlA
namespace Go.Proofs.Yteafgpjhgefiiaa.S
set_option linter.unusedSimpArgs false
set_option linter.unusedVariables false
set_option linter.unusedSectionVars false
/-- as many are missing, whatever the order -/
theorem lack_congr {s s' w w' : List Nat} (h : ∀ y, s.count y = s'.count y) (hw : ∀ y, w.count y = w'.count y) : lack s w = lack s' w' := by
  unfold lack; congr 1; refine List.map_congr_left fun y _ => ?_; rw [h, hw]
theorem turned_eq (a : List Nat) (n : Nat) : turned a n = a.drop (n % a.length) ++ a.take (n % a.length) := by
  by_cases h0 : a.length = 0
  · have : a = [] := List.eq_nil_of_length_eq_zero h0
    subst this; simp [turned]
  have hm : n % a.length < a.length := Nat.mod_lt _ (by omega)
  refine List.ext_getElem (by simp [turned]; omega) fun i h1 h2 => ?_
  have hi : i < a.length := by simpa [turned] using h1
  have hg : (turned a n)[i] = a.getD ((i + n) % a.length) 0 := by simp [turned]
  have hj : (i + n) % a.length < a.length := Nat.mod_lt _ (by omega)
  have hmod : (i + n) % a.length = (i + n % a.length) % a.length := by simp
  rw [hg, List.getD_eq_getElem?_getD, List.getElem?_eq_getElem hj, Option.getD_some, List.getElem_append]
  simp only [List.length_drop]
  split
  · rename_i hc
    rw [List.getElem_drop]
    congr 1
    rw [hmod, Nat.mod_eq_of_lt (by omega)]; omega
  · rename_i hc
    rw [List.getElem_take]
    congr 1
    rw [hmod, Nat.mod_eq_sub_mod (by omega), Nat.mod_eq_of_lt (by omega)]; omega
theorem turned_count (a : List Nat) (n y : Nat) : (turned a n).count y = a.count y := by
  rw [turned_eq, List.count_append, Nat.add_comm, ← List.count_append, List.take_append_drop]
theorem turned_mem {a : List Nat} {n x : Nat} (h : x ∈ turned a n) : x ∈ a := by
  rw [turned_eq] at h
  rcases List.mem_append.1 h with h | h
  · exact List.mem_of_mem_drop h
  · exact List.mem_of_mem_take h
theorem take_sub (s : List Nat) (u : List Int) : ∀ x, x ∈ take s u → x ∈ s := by
  have : ∀ (s : List Nat) (i : Nat) (x : Nat), x ∈ takeG u i s → x ∈ s := fun s => by
    induction s with
    | nil => intro i x h; exact h
    | cons a r ih =>
      intro i x h
      unfold takeG at h
      split at h
      · exact List.mem_cons_of_mem _ (ih _ _ h)
      · rcases List.mem_cons.1 h with rfl | h
        · exact List.mem_cons_self
        · exact List.mem_cons_of_mem _ (ih _ _ h)
  exact fun x => this s 0 x
theorem pick_cases (s : List Nat) (u : List Int) (x : Nat) : pick s u x = -1 ∨ (0 ≤ pick s u x ∧ bad s u x (pick s u x) = false) := by
  rcases pickG_range (u := u) (x := x) (s := s) (i := 0) with h | ⟨k, h1, h2, h3⟩
  · exact .inl h
  · right
    have h1' : pick s u x = (k : Int) := by unfold pick; rw [h1]; simp
    rw [h1']
    rw [Nat.zero_add] at h3
    have hk : k < s.length := (List.getElem?_eq_some_iff.1 h2).1
    exact ⟨by omega, by simp [bad, h2, h3]; omega⟩
theorem miss_nil : miss [] = 0 := rfl
theorem miss_cons (p : Int) (l : List Int) : miss (p :: l) = (if p < 0 then 1 else 0) + miss l := by
  unfold miss; rw [List.countP_cons]; simp; omega
/-- the matching is legal -/
theorem legG_froms (s : List Nat) : ∀ (w : List Nat) (u : List Int) (n : Nat), ∃ l, fromG s u w = u ++ l ∧ legG s u w l n = some (n + miss l)
  | [], u, n => ⟨[], by simp [fromG], by rw [legG_nil]; rfl⟩
  | x :: w, u, n => by
    rcases pick_cases s u x with h | ⟨h, hb⟩
    · obtain ⟨l, h1, h2⟩ := legG_froms s w (u ++ [pick s u x]) (n + 1)
      refine ⟨pick s u x :: l, by rw [fromG, h1]; simp, ?_⟩
      rw [legG, if_pos h, h2, miss_cons, h]
      simp; omega
    · obtain ⟨l, h1, h2⟩ := legG_froms s w (u ++ [pick s u x]) n
      refine ⟨pick s u x :: l, by rw [fromG, h1]; simp, ?_⟩
      rw [legG, if_neg (by omega), hb, if_neg (by simp), h2, miss_cons, if_neg (by omega)]
      simp
theorem legal_froms (s w : List Nat) : legal s w (froms s w) (miss (froms s w)) = true := by
  obtain ⟨l, h1, h2⟩ := legG_froms s w [] 0
  have e : froms s w = l := by rw [froms, h1]; simp
  have hl := froms_len s w
  unfold legal
  rw [e] at hl ⊢
  rw [h2]
  simp [hl]
/-- the wanted ones that are given, those that are missing -/
def gave (ok : Int → Bool) : List Int → List Nat → List Nat
  | p :: l, x :: w => if ok p then x :: gave ok l w else gave ok l w
  | _, _ => []
theorem gave_snoc (ok : Int → Bool) (p : Int) (x : Nat) : ∀ (l : List Int) (w : List Nat), l.length = w.length → gave ok (l ++ [p]) (w ++ [x]) = gave ok l w ++ if ok p then [x] else []
  | [], [], _ => by simp [gave]
  | a :: l, b :: w, h => by
    have := gave_snoc ok p x l w (by simpa using h)
    simp only [List.cons_append, gave]
    split <;> simp [this]
  | [], _ :: _, h => by simp at h
  | _ :: _, [], h => by simp at h
theorem gave_sub (ok : Int → Bool) : ∀ (l : List Int) (w : List Nat), ∀ x ∈ gave ok l w, x ∈ w
  | [], _, x, h => by simp [gave] at h
  | _ :: _, [], x, h => by simp [gave] at h
  | a :: l, b :: w, x, h => by
    unfold gave at h
    split at h
    · rcases List.mem_cons.1 h with rfl | h
      · exact List.mem_cons_self
      · exact List.mem_cons_of_mem _ (gave_sub ok l w x h)
    · exact List.mem_cons_of_mem _ (gave_sub ok l w x h)
theorem gave_count (s w : List Nat) : ∀ y, (gave (fun p => decide (0 ≤ p)) (froms s w) w).count y = min (w.count y) (s.count y) ∧ (gave (fun p => decide (p < 0)) (froms s w) w).count y = w.count y - s.count y := by
  refine snoc_ind (P := fun w => ∀ y, (gave (fun p => decide (0 ≤ p)) (froms s w) w).count y = min (w.count y) (s.count y) ∧ (gave (fun p => decide (p < 0)) (froms s w) w).count y = w.count y - s.count y) (fun y => by simp [froms, fromG, gave]) (fun w x ih y => ?_) w
  have hl := froms_len s w
  rw [froms_snoc, gave_snoc _ _ _ _ _ hl, gave_snoc _ _ _ _ _ hl, List.count_append, List.count_append, List.count_append, (ih y).1, (ih y).2]
  have hm := pick_miss s w x
  have hc : List.count y [x] = if y = x then 1 else 0 := by
    by_cases h : y = x
    · simp [h]
    · simp [h, Ne.symm h]
  by_cases hp : pick s (froms s w) x < 0
  · have h1 := hm.1 hp
    have hp' : ¬ 0 ≤ pick s (froms s w) x := by omega
    simp only [hp, hp', decide_true, decide_false, if_true, Bool.false_eq_true, if_false, hc, List.count_nil]
    by_cases e : y = x
    · subst e; simp; omega
    · simp [e]
  · have h1 : ¬ s.count x ≤ w.count x := fun h => hp (hm.2 h)
    have hp' : 0 ≤ pick s (froms s w) x := by omega
    simp only [hp, hp', decide_true, decide_false, if_true, Bool.false_eq_true, if_false, hc, List.count_nil]
    by_cases e : y = x
    · subst e; simp; omega
    · simp [e]
/-- a list of numbers below 6 has as many elements as it has of each -/
theorem len_sum : ∀ (l : List Nat), (∀ x ∈ l, x < 6) → l.length = ((List.range 6).map fun y => l.count y).sum
  | [], _ => by decide
  | a :: l, h => by
    have ih := len_sum l fun x hx => h x (List.mem_cons_of_mem _ hx)
    have := sum_bump (fun y => l.count y) (fun y => (a :: l).count y) a 1 (fun y => by
      rw [List.count_cons]
      by_cases e : y = a
      · simp [e]
      · simp [e, Ne.symm e]) 6 (h a List.mem_cons_self)
    rw [this, ← ih]; rfl
theorem len_congr {l l' : List Nat} (h : ∀ x ∈ l, x < 6) (h' : ∀ x ∈ l', x < 6) (hc : ∀ y, l.count y = l'.count y) : l.length = l'.length := by
  rw [len_sum l h, len_sum l' h']; congr 1; exact List.map_congr_left fun y _ => hc y
/-- what is left, with what is given, is the stock -/
theorem takes_count (s w : List Nat) (y : Nat) : (take s (froms s w) ++ gave (fun p => decide (0 ≤ p)) (froms s w) w).count y = s.count y := by
  rw [List.count_append, take_count, (gave_count s w y).1]; omega
theorem sum_add (f g h : Nat → Nat) (e : ∀ y, f y + g y = h y) : ∀ l : List Nat, (l.map f).sum + (l.map g).sum = (l.map h).sum
  | [] => rfl
  | y :: l => by
    have := sum_add f g h e l
    simp only [List.map_cons, List.sum_cons]
    have := e y
    omega
theorem parts_miss (s v w : List Nat) (hv : ∀ x ∈ v, x < 6) (hw : ∀ x ∈ w, x < 6) : miss (froms s v) + miss (froms (take s (froms s v)) w) = miss (froms s (v ++ w)) := by
  rw [miss_lack s v hv, miss_lack _ w hw, miss_lack s (v ++ w) (fun x hx => (List.mem_append.1 hx).elim (hv x) (hw x))]
  unfold lack
  rw [show ∀ (a b : List Nat), a.sum + b.sum = b.sum + a.sum from fun a b => Nat.add_comm _ _]
  exact sum_add _ _ _ (fun y => by rw [take_count, List.count_append]; omega) _
theorem more_miss (s w : List Nat) (hw : ∀ x ∈ w, x < 6) : miss (froms (s ++ gave (fun p => decide (p < 0)) (froms s w) w) w) = 0 := by
  rw [miss_lack _ w hw]
  unfold lack
  have : ∀ l : List Nat, (l.map fun y => w.count y - (s ++ gave (fun p => decide (p < 0)) (froms s w) w).count y).sum = 0 := fun l => by
    induction l with
    | nil => rfl
    | cons y l ih =>
      simp only [List.map_cons, List.sum_cons]
      rw [ih, List.count_append, (gave_count s w y).2]; omega
  exact this _
theorem one_miss (s w : List Nat) (p : Nat) (hw : ∀ x ∈ w, x < 6) (hp : p < 6) : miss (froms (s ++ [p]) w) ≤ miss (froms s w) ∧ miss (froms s w) ≤ miss (froms (s ++ [p]) w) + 1 := by
  rw [miss_lack _ w hw, miss_lack _ w hw]
  unfold lack
  have hc : ∀ y, (s ++ [p]).count y = s.count y + if y = p then 1 else 0 := fun y => by
    rw [List.count_append]
    by_cases h : y = p
    · simp [h]
    · simp [h, Ne.symm h]
  have := sum_bump (fun y => w.count y - (s ++ [p]).count y) (fun y => w.count y - s.count y) p (if s.count p < w.count p then 1 else 0) (fun y => by
    rw [hc y]
    by_cases e : y = p
    · subst e; simp; split <;> omega
    · simp [e]) 6 hp
  rw [this]
  split <;> omega
theorem gave_len (s w : List Nat) (hw : ∀ x ∈ w, x < 6) : (gave (fun p => decide (p < 0)) (froms s w) w).length = miss (froms s w) := by
  rw [len_sum _ fun x hx => hw x (gave_sub _ _ _ x hx), miss_lack s w hw]
  unfold lack; congr 1; exact List.map_congr_left fun y _ => (gave_count s w y).2
end Go.Proofs.Yteafgpjhgefiiaa.S
