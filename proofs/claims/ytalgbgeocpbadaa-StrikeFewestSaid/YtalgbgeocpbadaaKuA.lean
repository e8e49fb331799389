/-
  Chapter 26, plain: how many strikes a plan has.
-/
import Derived.Test.YtalgbgeocpbadaaKsA
namespace Go.Proofs.Ytalgbgeocpbadaa.K
set_option linter.unusedSimpArgs false
set_option linter.unusedVariables false
set_option linter.unusedSectionVars false
open Go.Proofs.Ytalgbgeocpbadaa.Am
/-- how many dots a strike has -/
def size (s : Stk) : Nat := s.up.length + s.down.length
theorem size_struck (y : Int) (w : Nat) : ∀ c : List Int, size (struck y w c) = c.length
  | [] => rfl
  | x :: c => by
    have ih := size_struck y w c
    simp only [size, struck, List.length_map] at ih ⊢
    by_cases h : x < (w : Int)
    · have h' : ¬ (w : Int) ≤ x := by omega
      rw [List.filter_cons_of_pos (by simpa using h), List.filter_cons_of_neg (by simpa using h')]
      simp only [List.length_cons]; omega
    · have h' : (w : Int) ≤ x := by omega
      rw [List.filter_cons_of_neg (by simpa using h), List.filter_cons_of_pos (by simpa using h')]
      simp only [List.length_cons]; omega
theorem posG_cnt (off : Nat) : ∀ (r : List Bool) (x : Nat), (posG off x r).length = cnt r
  | [], x => rfl
  | b :: r, x => by
    have ih := posG_cnt off r (x + 1)
    cases b
    · simpa [posG, cnt] using ih
    · simpa [posG, cnt] using ih
theorem cols_cnt (w : Nat) (u d : List Bool) : (cols w u d).length = cnt u + cnt d := by
  rw [cols, List.length_append, posG_cnt, posG_cnt]
theorem chunkG_pos {α : Type} {n : Nat} (hn : 1 ≤ n) : ∀ (f : Nat) (l : List α) (c : List α), c ∈ chunkG n f l → 1 ≤ c.length ∧ c.length ≤ n
  | 0, l, c, h => by simp [chunkG] at h
  | f + 1, l, c, h => by
    simp only [chunkG] at h
    split at h
    · simp at h
    · rename_i hl
      have hl' : 0 < l.length := List.length_pos_iff.2 hl
      rcases List.mem_cons.1 h with rfl | h
      · rw [List.length_take]; omega
      · exact chunkG_pos hn f _ c h
theorem chunkG_pw {α : Type} {n : Nat} : ∀ (f : Nat) (l : List α), (chunkG n f l).Pairwise fun a _ => a.length = n
  | 0, l => List.Pairwise.nil
  | f + 1, l => by
    simp only [chunkG]
    split
    · exact List.Pairwise.nil
    · refine List.pairwise_cons.2 ⟨fun c hc => ?_, chunkG_pw f _⟩
      by_cases hn : n ≤ l.length
      · rw [List.length_take]; omega
      · rw [List.drop_eq_nil_of_le (by omega)] at hc
        cases f <;> simp [chunkG] at hc
theorem chunkG_count {α : Type} {n : Nat} (hn : 1 ≤ n) : ∀ (f : Nat) (l : List α), l.length ≤ f → (chunkG n f l).length = (l.length + n - 1) / n
  | 0, l, h => by
    rw [show l.length = 0 by omega]
    simp only [chunkG, List.length_nil]
    rw [Nat.div_eq_of_lt (by omega)]
  | f + 1, l, h => by
    simp only [chunkG]
    split
    · rename_i e; subst e
      simp only [List.length_nil]
      rw [Nat.div_eq_of_lt (by omega)]
    · rename_i hl
      have hl' : 0 < l.length := List.length_pos_iff.2 hl
      rw [List.length_cons, chunkG_count hn f _ (by rw [List.length_drop]; omega), List.length_drop]
      by_cases hm : n ≤ l.length
      · rw [show l.length + n - 1 = (l.length - n + n - 1) + n by omega, Nat.add_div_right _ (by omega)]
      · rw [show l.length - n = 0 by omega, Nat.div_eq_of_lt (by omega), show l.length + n - 1 = (l.length - 1) + n by omega, Nat.add_div_right _ (by omega), Nat.div_eq_of_lt (by omega)]
theorem chunkG_sum {α : Type} {n : Nat} (hn : 1 ≤ n) (l : List α) : ((chunk n l).map List.length).sum = l.length := by
  rw [← List.length_flatten, chunk_flat hn]
/-- how many strikes a plate needs -/
def wantG (n : Nat) : List (List Bool) → List (List Bool) → Nat
  | u :: us, d :: ds => (cnt u + cnt d + n - 1) / n + wantG n us ds
  | _, _ => 0
theorem planG_count {w n : Nat} (hn : 1 ≤ n) : ∀ (us ds : List (List Bool)) (y : Nat), (planG w n y us ds).length = wantG n us ds
  | u :: us, d :: ds, y => by
    rw [planG, List.length_append, planG_count hn us ds (y + 1), planRow, List.length_map, chunk, chunkG_count hn _ _ (Nat.le_refl _), cols_cnt, wantG]
  | [], _, _ => by simp [planG, wantG]
  | _ :: _, [], _ => by simp [planG, wantG]
theorem planG_sum {w n : Nat} (hn : 1 ≤ n) : ∀ (us ds : List (List Bool)) (y : Nat), us.length = ds.length → ((planG w n y us ds).map size).sum = cntD us + cntD ds
  | u :: us, d :: ds, y, h => by
    rw [planG, List.map_append, List.sum_append, planG_sum hn us ds (y + 1) (by simpa using h), planRow, List.map_map, show (size ∘ struck y w) = List.length from funext fun c => size_struck y w c, chunkG_sum hn, cols_cnt]
    simp only [cntD, List.map_cons, List.sum_cons]; omega
  | [], [], _, _ => by simp [planG, cntD]
  | [], _ :: _, _, h => by simp at h
  | _ :: _, [], _, h => by simp at h
theorem planG_row {w n : Nat} : ∀ (us ds : List (List Bool)) (y : Nat), ∀ s ∈ planG w n y us ds, (y : Int) ≤ s.row
  | u :: us, d :: ds, y, s, h => by
    rcases List.mem_append.1 h with h | h
    · obtain ⟨c, _, rfl⟩ := List.mem_map.1 h
      simp [struck]
    · have := planG_row us ds (y + 1) s h; omega
  | [], _, _, s, h => by simp [planG] at h
  | _ :: _, [], _, s, h => by simp [planG] at h
/-- rows in order; all strikes of a row but its last one are full -/
theorem planG_pw {w n : Nat} : ∀ (us ds : List (List Bool)) (y : Nat), (planG w n y us ds).Pairwise fun a b => a.row < b.row ∨ a.row = b.row ∧ size a = n
  | u :: us, d :: ds, y => by
    rw [planG]
    refine List.pairwise_append.2 ⟨?_, planG_pw us ds (y + 1), fun a ha b hb => ?_⟩
    · rw [planRow]
      refine List.pairwise_map.2 ((chunkG_pw _ _).imp fun {a b} h => Or.inr ⟨rfl, ?_⟩)
      rw [size_struck, h]
    · obtain ⟨c, _, rfl⟩ := List.mem_map.1 ha
      have := planG_row us ds (y + 1) b hb
      left; simp only [struck]; omega
  | [], _, _ => by simp [planG]
  | _ :: _, [], _ => by simp [planG]
theorem planG_each {w h n : Nat} (hn : 1 ≤ n) : ∀ (us ds : List (List Bool)) (y : Nat), y + us.length ≤ h → (∀ r ∈ us, r.length = w) → (∀ r ∈ ds, r.length = w) → ∀ s ∈ planG w n y us ds, poss w h s = true ∧ 1 ≤ size s ∧ size s ≤ n
  | u :: us, d :: ds, y, hy, hu, hd, s, hs => by
    simp only [List.length_cons] at hy
    rcases List.mem_append.1 hs with hs | hs
    · refine ⟨(planRow_poss (hu u List.mem_cons_self) (hd d List.mem_cons_self) (by omega) s hs).2, ?_⟩
      obtain ⟨c, hc, rfl⟩ := List.mem_map.1 hs
      rw [size_struck]
      exact chunkG_pos hn _ _ c hc
    · exact planG_each hn us ds (y + 1) (by omega) (fun r hr => hu r (List.mem_cons_of_mem _ hr)) (fun r hr => hd r (List.mem_cons_of_mem _ hr)) s hs
  | [], _, _, _, _, _, s, h => by simp [planG] at h
  | _ :: _, [], _, _, _, _, s, h => by simp [planG] at h
end Go.Proofs.Ytalgbgeocpbadaa.K
