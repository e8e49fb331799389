/-
  Chapter 20: Read inverts Lay.
-/
import Derived.Test.YtfpkcjjgooigbaaQDjA
import Derived.Test.YtfpkcjjgooigbaaQDdA
namespace Go.Proofs.Ytfpkcjjgooigbaa.C
set_option linter.unusedSimpArgs false
set_option linter.unusedVariables false
set_option linter.unusedSectionVars false
open Go.Proofs.Ytfpkcjjgooigbaa.Am
open Go.Proofs.Ytfpkcjjgooigbaa.L (mixed wrap_ok I U CL CLL UCL Word clean words zeros ic wd brk brkG longG indent)
set_option maxHeartbeats 8000000
theorem Read23 (rows : List Row) (M : Md rows) (l : List Word) (f : Nat) (hf : f = 2 ∨ f = 3) (hl : 0 < l.length) (h : (f = 2 → Am.Fn Try.prog 27 [1, 0] [CLL l, I (nc rows)] (.tup [.uslc (rows.map URW), .bool true])) ∧ (f = 3 → Am.Fn Try.prog 28 [1, 0] [CLL l, I (nc rows)] (.tup [.uslc (rows.map URW), .bool true]))) :
    Am.Fn Try.prog 13 [1, 0] [CLL l, I f, I (nc rows)] (.tup [.uslc (rows.map URW), I 0]) := by
  have E := M.ev'
  obtain ⟨hp, h1, h4, _⟩ := id E
  obtain ⟨n, hn⟩ : ∃ n, n = nc rows := ⟨_, rfl⟩
  rw [← hn] at h1 h4 h ⊢
  have t1 : ¬ (n : Int) < 1 := by omega
  have t2 : ¬ (4 : Int) < n := by omega
  have t3 : ¬ (l.length : Int) = 0 := by omega
  have t4 : ¬ l = [] := List.length_pos_iff.1 hl
  refine fn_introX mixed (X := X13) c13 3 (by simp [X13]) fun Q hR hN => ?_
  rcases hf with rfl | rfl
  · have hB := h.1 rfl
    simp [X13, t1, t2, t3, t4]
    refine call_of hB ?_
    simp
    refine hR _ _ ?_
    simp [X13]
  · have hB := h.2 rfl
    simp [X13, t1, t2, t3, t4]
    refine call_of hB ?_
    simp
    refine hR _ _ ?_
    simp [X13]
theorem frz_rows (rows : List Row) : List.map (frzE ∘ URW) rows = rows.map RW := List.map_congr_left fun r _ => rfl
theorem ReadsBack_fn (cols most : Int) (l : List (List Int)) (w : Int) (hc : 0 ≤ cols ∧ cols ≤ 255) (hm : 0 ≤ most ∧ most ≤ 255) (hl : ∀ x ∈ l, ∀ a ∈ x, 0 ≤ a ∧ a ≤ 255) (hw : 0 ≤ w ∧ w ≤ 255) :
    Am.Fn Try.prog 4 [0] [RawP cols most l, U w] (.bool true) := by
  obtain ⟨rows, M, hM⟩ := Made_md cols most l hc hm hl
  obtain ⟨c, w1, w2, w3, w4⟩ := mod_ok hw 37 (by omega)
  have n1 := M.n1
  have n4 := M.n4
  have E := M.ev'
  obtain ⟨W, hW⟩ : ∃ W : Nat, W = 24 + c := ⟨_, rfl⟩
  have w5 : IntKind.i64.wrap (24 + (c : Int)) = (W : Int) := by rw [wrap_ok (by omega) (by omega)]; omega
  have A := lay_fn rows W (by have := M.n4; omega) fun r hr x hx => by have := M.le r hr x hx; omega
  have hla := layR_md M (w := W) (by omega)
  have hfz := frz_rows rows
  have n0 : ¬ rows = [] := List.length_pos_iff.1 (by omega)
  have hp : 0 < rows.length := by omega
  have hcn := nc_eq hp
  have hS := SameRows_fn rows rows (by omega) fun r hr => ⟨by have := (md_row M hr).1; have := E.c4; unfold maxLen; omega, fun x hx => by have := M.le r hr x hx; unfold maxLen; omega⟩
  rw [decide_eq_true rfl] at hS
  refine fn_introX mixed (X := X4) c4 6 (by simp [X4]) fun Q hR hN => ?_
  simp [X4]
  refine call_of sanity_fn ?_
  simp
  refine call_of hM ?_
  simp [w1, w3, w4, w5]
  refine call_of A ?_
  rw [hla]
  by_cases t1 : widthN rows ≤ W
  · rw [if_pos t1]
    have hcl : (colsL rows).length = rows.length := by simp [colsL]
    have h1 := Read1_fn (colsL rows) (nc rows) (by omega) (by omega) (fun x hx => by have := (cols_lines M x hx).1; omega) ⟨E.c1, E.c4⟩
    unfold readP1 at h1
    rw [cols_back M, if_pos ⟨okC_cols M, rfl⟩] at h1
    simp [n0, hp, hcn]
    refine call_of h1 ?_
    simp
    refine call_of hS ?_
    simp
    refine hR _ _ ?_
    simp [X4]
  rw [if_neg t1]
  by_cases t2 : longest (stairsL rows) ≤ W
  · rw [if_pos t2]
    have h1 := Read23 rows M (stairsL rows) 2 (.inl rfl) (by rw [stairs_len M]; exact Nat.mul_pos (by omega) E.c1) ⟨fun _ => Read2a rows M, fun h => by omega⟩
    simp [n0, hp, hcn]
    refine call_of h1 ?_
    simp [hfz]
    refine call_of hS ?_
    simp
    refine hR _ _ ?_
    simp [X4]
  rw [if_neg t2]
  by_cases t3 : rows.all (fitR W) = true
  · rw [if_pos t3]
    have hlg := list_ge M W
    have := E.c1
    have hpos : 0 < rows.length * nc rows := Nat.mul_pos (by omega) E.c1
    have h1 := Read23 rows M (listL W rows) 3 (.inr rfl) (by omega) ⟨fun h => by omega, fun _ => Read3a rows M W (by omega) t3⟩
    simp [n0, hp, hcn]
    refine call_of h1 ?_
    simp [hfz]
    refine call_of hS ?_
    simp
    refine hR _ _ ?_
    simp [X4]
  · rw [if_neg t3]
    simp
    refine hR _ _ ?_
    simp [X4]
end Go.Proofs.Ytfpkcjjgooigbaa.C
