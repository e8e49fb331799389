/-
  Chapter 26, plain: dots, strikes, plans.
-/
import Derived.KernelRfl
namespace Go.Proofs.Ytgdcogoacnghkaa.N
set_option linter.unusedSimpArgs false
set_option linter.unusedVariables false
set_option linter.unusedSectionVars false
/-- the places of the raised dots -/
def posG (off : Nat) : Nat → List Bool → List Int
  | _, [] => []
  | x, b :: r => if b then ((off + x : Nat) : Int) :: posG off (x + 1) r else posG off (x + 1) r
theorem posG_append (off : Nat) : ∀ (a b : List Bool) (x : Nat), posG off x (a ++ b) = posG off x a ++ posG off (x + a.length) b
  | [], b, x => by simp [posG]
  | c :: a, b, x => by
    simp only [List.cons_append, posG, posG_append off a b (x + 1), List.length_cons]
    rw [show x + 1 + a.length = x + (a.length + 1) by omega]
    split <;> simp
theorem posG_snoc {off : Nat} {r : List Bool} {k : Nat} (h : k < r.length) : posG off 0 (r.take (k + 1)) = posG off 0 (r.take k) ++ if r[k] then [((off + k : Nat) : Int)] else [] := by
  rw [List.take_succ_eq_append_getElem h, posG_append, List.length_take, Nat.min_eq_left (by omega), Nat.zero_add]
  simp only [posG]
theorem posG_len (off : Nat) : ∀ (r : List Bool) (x : Nat), (posG off x r).length ≤ r.length
  | [], x => Nat.le_refl _
  | b :: r, x => by
    have := posG_len off r (x + 1)
    unfold posG; split <;> simp <;> omega
theorem posG_mem (off : Nat) : ∀ (r : List Bool) (x : Nat) (i : Int), i ∈ posG off x r → ∃ k : Nat, i = ((off + x + k : Nat) : Int) ∧ r[k]? = some true
  | [], x, i, h => by simp [posG] at h
  | b :: r, x, i, h => by
    unfold posG at h
    split at h
    · rename_i hb
      rcases List.mem_cons.1 h with rfl | h
      · exact ⟨0, by simp, by simp [hb]⟩
      · obtain ⟨k, h1, h2⟩ := posG_mem off r (x + 1) i h
        exact ⟨k + 1, by rw [h1]; omega, by simpa using h2⟩
    · obtain ⟨k, h1, h2⟩ := posG_mem off r (x + 1) i h
      exact ⟨k + 1, by rw [h1]; omega, by simpa using h2⟩
/-- .. of several sides -/
def sidesG (w : Nat) : Nat → List (List Bool) → List Int
  | _, [] => []
  | k, r :: rs => posG (k * w) 0 r ++ sidesG w (k + 1) rs
theorem sidesG_append (w : Nat) : ∀ (a b : List (List Bool)) (k : Nat), sidesG w k (a ++ b) = sidesG w k a ++ sidesG w (k + a.length) b
  | [], b, k => by simp [sidesG]
  | c :: a, b, k => by
    simp only [List.cons_append, sidesG, sidesG_append w a b (k + 1), List.length_cons, List.append_assoc]
    rw [show k + 1 + a.length = k + (a.length + 1) by omega]
theorem sidesG_snoc {w : Nat} {r : List (List Bool)} {k : Nat} (h : k < r.length) : sidesG w 0 (r.take (k + 1)) = sidesG w 0 (r.take k) ++ posG (k * w) 0 r[k] := by
  rw [List.take_succ_eq_append_getElem h, sidesG_append, List.length_take, Nat.min_eq_left (by omega), Nat.zero_add]
  simp [sidesG]
/-- the raised dots of a row, the front's, then the back's -/
def cols (w : Nat) (u d : List Bool) : List Int := posG 0 0 u ++ posG w 0 d
theorem cols_eq (w : Nat) (u d : List Bool) : sidesG w 0 [u, d] = cols w u d := by simp [sidesG, cols]
structure Stk where
  row : Int
  up : List Int
  down : List Int
  deriving DecidableEq
def struck (y : Int) (w : Nat) (l : List Int) : Stk := ⟨y, l.filter (· < (w : Int)), (l.filter (fun n => decide ((w : Int) ≤ n))).map (· - (w : Int))⟩
/-- a list in parts of n -/
def chunkG {α : Type} (n : Nat) : Nat → List α → List (List α)
  | 0, _ => []
  | f + 1, l => if l = [] then [] else l.take n :: chunkG n f (l.drop n)
def chunk {α : Type} (n : Nat) (l : List α) : List (List α) := chunkG n l.length l
theorem chunkG_fuel {α : Type} (n : Nat) (hn : 1 ≤ n) : ∀ (f f' : Nat) (l : List α), l.length ≤ f → l.length ≤ f' → chunkG n f l = chunkG n f' l
  | 0, f', l, h1, h2 => by
    have : l = [] := List.eq_nil_of_length_eq_zero (by omega)
    subst this
    cases f' <;> simp [chunkG]
  | f + 1, 0, l, h1, h2 => by
    have : l = [] := List.eq_nil_of_length_eq_zero (by omega)
    subst this
    simp [chunkG]
  | f + 1, f' + 1, l, h1, h2 => by
    simp only [chunkG]
    split
    · rfl
    · rename_i hl
      have hl' : 0 < l.length := List.length_pos_iff.2 hl
      rw [chunkG_fuel n hn f f' (l.drop n) (by simp; omega) (by simp; omega)]
theorem chunk_cons {α : Type} {n : Nat} (hn : 1 ≤ n) {l : List α} (hl : l ≠ []) : chunk n l = l.take n :: chunk n (l.drop n) := by
  have hl' : 0 < l.length := List.length_pos_iff.2 hl
  unfold chunk
  obtain ⟨m, hm⟩ : ∃ m, l.length = m + 1 := ⟨l.length - 1, by omega⟩
  rw [hm]
  simp only [chunkG, if_neg hl]
  rw [chunkG_fuel n hn m (l.drop n).length (l.drop n) (by simp; omega) (Nat.le_refl _)]
theorem chunk_nil {α : Type} (n : Nat) : chunk n ([] : List α) = [] := rfl
def planRow (w n : Nat) (y : Nat) (u d : List Bool) : List Stk := (chunk n (cols w u d)).map (struck y w)
def planG (w n : Nat) : Nat → List (List Bool) → List (List Bool) → List Stk
  | y, u :: us, d :: ds => planRow w n y u d ++ planG w n (y + 1) us ds
  | _, _, _ => []
theorem chunkG_len {α : Type} {n : Nat} (hn : 1 ≤ n) : ∀ (f : Nat) (l : List α), (chunkG n f l).length ≤ l.length
  | 0, l => Nat.zero_le _
  | f + 1, l => by
    simp only [chunkG]
    split
    · simp
    · rename_i hl
      have hl' : 0 < l.length := List.length_pos_iff.2 hl
      have := chunkG_len hn f (l.drop n)
      simp at this ⊢
      omega
theorem chunk_len {α : Type} {n : Nat} (hn : 1 ≤ n) (l : List α) : (chunk n l).length ≤ l.length := chunkG_len hn _ l
theorem planG_append (w n : Nat) : ∀ (us ds us' ds' : List (List Bool)) (y : Nat), us.length = ds.length → planG w n y (us ++ us') (ds ++ ds') = planG w n y us ds ++ planG w n (y + us.length) us' ds'
  | [], [], us', ds', y, _ => by simp [planG]
  | u :: us, d :: ds, us', ds', y, h => by
    simp only [List.cons_append, planG, planG_append w n us ds us' ds' (y + 1) (by simpa using h), List.length_cons, List.append_assoc]
    rw [show y + 1 + us.length = y + (us.length + 1) by omega]
  | [], _ :: _, _, _, _, h => by simp at h
  | _ :: _, [], _, _, _, h => by simp at h
theorem planG_snoc {w n : Nat} {us ds : List (List Bool)} {k : Nat} (h1 : k < us.length) (h2 : k < ds.length) : planG w n 0 (us.take (k + 1)) (ds.take (k + 1)) = planG w n 0 (us.take k) (ds.take k) ++ planRow w n k us[k] ds[k] := by
  rw [List.take_succ_eq_append_getElem h1, List.take_succ_eq_append_getElem h2, planG_append _ _ _ _ _ _ _ (by simp; omega), List.length_take, Nat.min_eq_left (by omega), Nat.zero_add]
  simp [planG]
theorem cols_bound {w : Nat} {u d : List Bool} (hu : u.length = w) (hd : d.length = w) : ∀ x ∈ cols w u d, 0 ≤ x ∧ x < 2 * (w : Int) := fun x hx => by
  rcases List.mem_append.1 hx with h | h
  · obtain ⟨k, h1, h2⟩ := posG_mem _ _ _ _ h
    have := (List.getElem?_eq_some_iff.1 h2).1
    omega
  · obtain ⟨k, h1, h2⟩ := posG_mem _ _ _ _ h
    have := (List.getElem?_eq_some_iff.1 h2).1
    omega
theorem cols_len {w : Nat} {u d : List Bool} (hu : u.length = w) (hd : d.length = w) : (cols w u d).length ≤ 2 * w := by
  have a1 := posG_len 0 u 0
  have a2 := posG_len w d 0
  simp only [cols, List.length_append]; omega
end Go.Proofs.Ytgdcogoacnghkaa.N
