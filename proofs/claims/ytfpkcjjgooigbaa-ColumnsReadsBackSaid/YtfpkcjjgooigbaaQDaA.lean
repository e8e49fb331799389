/-
  Chapter 20, plain: made rows are even and clean.
-/
import Derived.Test.YtfpkcjjgooigbaaQCzA
namespace Go.Proofs.Ytfpkcjjgooigbaa.C
set_option linter.unusedSimpArgs false
set_option linter.unusedVariables false
set_option linter.unusedSectionVars false
open Go.Proofs.Ytfpkcjjgooigbaa.Am
open Go.Proofs.Ytfpkcjjgooigbaa.L (mixed wrap_ok I U CL CLL UCL Word clean words zeros ic wd)
set_option maxHeartbeats 8000000
structure Md (rows : List Row) : Prop where
  n1 : 1 ≤ rows.length
  n4 : rows.length ≤ 4
  ev : evenB rows = true
  cl : clB rows = true
  le : ∀ r ∈ rows, ∀ x ∈ r, x.length ≤ 200
theorem wordPre_wd {i : Nat} {a : Int} : ∀ {k : Nat}, 1 ≤ k → wd (wordPre i a k)
  | 1, _ => by
    refine ⟨by simp [wordPre], fun c hc => ?_⟩
    simp [wordPre] at hc; subst hc
    have := Int.emod_nonneg ((i : Int) + a) (show (62 : Int) ≠ 0 by omega)
    have := Int.emod_lt_of_pos ((i : Int) + a) (show (0 : Int) < 62 by omega)
    omega
  | k + 2, _ => by
    obtain ⟨h1, h2⟩ := wordPre_wd (i := i) (a := a) (k := k + 1) (by omega)
    refine ⟨by unfold wordPre; simp, fun c hc => ?_⟩
    unfold wordPre at hc
    rcases List.mem_append.1 hc with hc | hc
    · exact h2 c hc
    · rw [List.mem_singleton] at hc; subst hc
      generalize (i : Int) + ((k + 1 : Nat) : Int) + a = z
      have := Int.emod_nonneg z (show (62 : Int) ≠ 0 by omega)
      have := Int.emod_lt_of_pos z (show (0 : Int) < 62 by omega)
      omega
theorem cellsPre_ic {l : List Int} {m : Nat} (hm : 1 ≤ m ∧ m ≤ 21) (hl : ∀ a ∈ l, 0 ≤ a ∧ a ≤ 255) : ∀ i, 1 ≤ i → i ≤ l.length → ∃ ws : List Word, ws ≠ [] ∧ (∀ w ∈ ws, wd w) ∧ cellsPre l m i = ic ws
  | 0, h, _ => by omega
  | i + 1, _, h => by
    have hg : l.getD i 0 = l[i] := by rw [List.getD_eq_getElem?_getD, List.getElem?_eq_getElem (by omega)]; rfl
    have hw := wordPre_wd (i := i) (a := l[i]) (wLen_le hm (hl l[i] (List.getElem_mem _)).1).1
    unfold cellsPre
    rw [hg]
    by_cases h0 : 0 < i
    · obtain ⟨ws, w1, w2, w3⟩ := cellsPre_ic hm hl i (by omega) (by omega)
      refine ⟨ws ++ [wordPre i l[i] (wLen m l[i])], by simp, fun w hh => ?_, ?_⟩
      · rcases List.mem_append.1 hh with hh | hh
        · exact w2 w hh
        · rw [List.mem_singleton] at hh; subst hh; exact hw
      · rw [L.ic_append w1 (by simp), if_pos h0, w3]
        show _ = ic ws ++ 0 :: wordPre i l[i] (wLen m l[i])
        simp
    · obtain rfl : i = 0 := by omega
      refine ⟨[wordPre 0 l[0] (wLen m l[0])], by simp, fun w hh => ?_, ?_⟩
      · rw [List.mem_singleton] at hh; subst hh; exact hw
      · show _ = wordPre 0 l[0] (wLen m l[0])
        simp [cellsPre]
theorem cells_ok {l : List Int} {m : Nat} (hm : 1 ≤ m ∧ m ≤ 21) (hl : ∀ a ∈ l, 0 ≤ a ∧ a ≤ 255) : cl (cellsL l m) = true ∧ (cellsL l m).length ≤ 200 := by
  unfold cellsL
  by_cases h : l = []
  · rw [if_pos h]; exact ⟨by decide, by simp⟩
  · rw [if_neg h]
    have hp : 0 < l.length := List.length_pos_iff.2 h
    obtain ⟨ws, w1, w2, w3⟩ := cellsPre_ic hm hl (min l.length 6) (by omega) (by omega)
    refine ⟨?_, ?_⟩
    · rw [w3]; unfold cl; rw [L.clean_ic w1 w2]
    · have := cellsPre_len hm hl (min l.length 6) (by omega); omega
theorem rowPre_all {l : List (List Int)} {m i : Nat} (hm : 1 ≤ m ∧ m ≤ 21) (hl : ∀ x ∈ l, ∀ a ∈ x, 0 ≤ a ∧ a ≤ 255) : ∀ k, ∀ x ∈ rowPre l m i k, cl x = true ∧ x.length ≤ 200
  | 0, x, hx => by simp [rowPre] at hx
  | k + 1, x, hx => by
    unfold rowPre at hx
    rcases List.mem_append.1 hx with hx | hx
    · exact rowPre_all hm hl k x hx
    · rw [List.mem_singleton] at hx; subst hx
      refine cells_ok hm fun a ha => ?_
      rw [List.getD_eq_getElem?_getD] at ha
      by_cases hk : i + k < l.length
      · rw [List.getElem?_eq_getElem hk] at ha
        exact hl _ (List.getElem_mem hk) a ha
      · rw [List.getElem?_eq_none (by omega)] at ha; simp at ha
theorem madePre_all {l : List (List Int)} {m c : Nat} (hm : 1 ≤ m ∧ m ≤ 21) (hl : ∀ x ∈ l, ∀ a ∈ x, 0 ≤ a ∧ a ≤ 255) : ∀ k, ∀ r ∈ madePre l m c k, r.length = c ∧ ∀ x ∈ r, cl x = true ∧ x.length ≤ 200
  | 0, x, hx => by simp [madePre] at hx
  | k + 1, x, hx => by
    unfold madePre at hx
    rcases List.mem_append.1 hx with hx | hx
    · exact madePre_all hm hl k x hx
    · rw [List.mem_singleton] at hx; subst hx
      exact ⟨rowPre_len .., rowPre_all hm hl c⟩
theorem nRows_le {c n : Nat} : nRows c n ≤ 4 ∧ (n ≠ 0 → 1 ≤ nRows c n) := by
  unfold nRows
  (repeat' split) <;> omega
theorem md_of {rows : List Row} {c : Nat} (h1 : 1 ≤ rows.length) (h4 : rows.length ≤ 4) (hc : 1 ≤ c ∧ c ≤ 4) (h : ∀ r ∈ rows, r.length = c ∧ ∀ x ∈ r, cl x = true ∧ x.length ≤ 200) : Md rows := by
  have hnc : nc rows = c := by
    unfold nc; rw [List.getD_eq_getElem?_getD, List.getElem?_eq_getElem (by omega)]; exact (h _ (List.getElem_mem _)).1
  refine ⟨h1, h4, ?_, ?_, fun r hr x hx => ((h r hr).2 x hx).2⟩
  · rw [even_iff]
    refine ⟨List.length_pos_iff.1 (by omega), by omega, by omega, ?_⟩
    intro i hi _
    rw [hnc]; exact (h _ (List.getElem_mem hi)).1
  · unfold clB; rw [List.all_eq_true]; intro r hr; rw [List.all_eq_true]; intro x hx; exact ((h r hr).2 x hx).1
theorem made_md (l : List (List Int)) (m c : Nat) (hc : 1 ≤ c ∧ c ≤ 4) (hm : 1 ≤ m ∧ m ≤ 21) (hl : ∀ x ∈ l, ∀ a ∈ x, 0 ≤ a ∧ a ≤ 255) : Md (madeN l m c) := by
  unfold madeN
  split
  · exact md_of (c := 1) (by simp) (by simp) (by omega) (by decide)
  · rename_i hne
    have hp : 0 < l.length := List.length_pos_iff.2 hne
    have hn := nRows_le (c := c) (n := l.length)
    exact md_of (by rw [madePre_len]; exact hn.2 (by omega)) (by rw [madePre_len]; exact hn.1) hc (madePre_all hm hl _)
theorem Md.ev' {rows : List Row} (M : Md rows) : Ev rows := Ev.of M.ev (by have := M.n4; omega) fun r hr x hx => by have := M.le r hr x hx; omega
theorem Made_md (cols most : Int) (l : List (List Int)) (hc : 0 ≤ cols ∧ cols ≤ 255) (hm : 0 ≤ most ∧ most ≤ 255) (hl : ∀ x ∈ l, ∀ a ∈ x, 0 ≤ a ∧ a ≤ 255) : ∃ rows, Md rows ∧ Am.Fn Try.prog 9 [1] [RawP cols most l] (RWS rows) := by
  obtain ⟨c, ec⟩ : ∃ c : Nat, (c : Int) = 1 + cols % 4 := ⟨(1 + cols % 4).toNat, by omega⟩
  obtain ⟨m, em⟩ : ∃ m : Nat, (m : Int) = 1 + most % 20 := ⟨(1 + most % 20).toNat, by omega⟩
  exact ⟨_, made_md l m c (by omega) (by omega) hl, Made_fn cols most l hc hm hl c m ec em⟩
end Go.Proofs.Ytfpkcjjgooigbaa.C
