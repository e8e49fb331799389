/-
  Chapter 20: the reference's Lay.
-/
import Derived.Test.YtfpkcjjgooigbaaQCiA
import Derived.Test.YtfpkcjjgooigbaaMg4
namespace Go.Proofs.Ytfpkcjjgooigbaa.C
set_option linter.unusedSimpArgs false
set_option linter.unusedVariables false
set_option linter.unusedSectionVars false
open Go.Proofs.Ytfpkcjjgooigbaa.Am
open Go.Proofs.Ytfpkcjjgooigbaa.L (mixed wrap_ok I U CL CLL UCL Word clean words zeros brk brkG longG breakR errR okI)
set_option maxHeartbeats 8000000
def layPV (mk : List PV → PV) (f1 f2 f3 : Word → PV) (rows : List Row) (w : Int) : PV :=
  if w < 24 ∨ 60 < w then mk [.nils, I 0, I 1] else if evenB rows = false then mk [.nils, I 0, I 200] else if clB rows = false then mk [.nils, I 0, I 180]
  else if (widthN rows : Int) ≤ w then mk [.uslc ((colsL rows).map f1), I 1, I 0] else if (longest (stairsL rows) : Int) ≤ w then mk [.uslc ((stairsL rows).map f2), I 2, I 0]
  else if (rows.all (fitR w.toNat)) = true then mk [.uslc ((listL w.toNat rows).map f3), I 3, I 0] else mk [.nils, I 0, I 181]
def ClAtR (rows : List Row) (j : Nat) : Prop := ∀ (i : Nat) (h : i < rows.length), i < j → ∀ (k : Nat) (h' : k < rows[i].length), cl rows[i][k] = true
def ClIn (r : Row) (k : Nat) : Prop := ∀ (i : Nat) (h : i < r.length), i < k → cl r[i] = true
theorem clB_of {rows : List Row} (h : ClAtR rows rows.length) : clB rows = true := by
  unfold clB; rw [List.all_eq_true]; intro r hr
  obtain ⟨i, hi, rfl⟩ := List.getElem_of_mem hr
  rw [List.all_eq_true]; intro x hx
  obtain ⟨k, hk, rfl⟩ := List.getElem_of_mem hx
  exact h i hi hi k hk
theorem clB_not {rows : List Row} {j k : Nat} (hj : j < rows.length) (hk : k < rows[j].length) (h : cl rows[j][k] = false) : clB rows = false := by
  rw [← Bool.not_eq_true]; unfold clB; rw [List.all_eq_true]; intro hh
  have := hh _ (List.getElem_mem hj)
  rw [List.all_eq_true] at this
  have := this _ (List.getElem_mem hk)
  rw [h] at this; cases this
theorem stairs_all {rows : List Row} (E : Ev rows) : (∀ x ∈ stairsL rows, x.length ≤ 100000) ∧ (stairsL rows).length ≤ 100000 := by
  constructor
  · intro x hx
    unfold stairsL at hx
    rw [List.mem_flatten] at hx
    obtain ⟨l, hl, hx⟩ := hx
    obtain ⟨r, hr, rfl⟩ := List.mem_map.1 hl
    obtain ⟨j, hj, rfl⟩ := List.getElem_of_mem hr
    have key : ∀ k, k ≤ rows[j].length → ∀ x ∈ stairPre rows[j] k, x.length ≤ 2000 + 2 * k := by
      intro k
      induction k with
      | zero => intro _ x hx; simp [stairPre] at hx
      | succ k ih =>
        intro hk x hx
        unfold stairPre at hx
        rcases List.mem_append.1 hx with hx | hx
        · have := ih (by omega) x hx; omega
        · have he := E.ent j hj k (by omega)
          rw [List.getD_eq_getElem?_getD, List.getElem?_eq_getElem (by omega), Option.getD_some] at hx
          simp at hx
          subst hx
          simp; omega
    have h1 := key _ (Nat.le_refl _) x hx
    have h2 := E.all j hj
    have h3 := E.c4
    omega
  · have := stairU_len E rows.length (Nat.le_refl _)
    rw [stairU_all] at this
    have h3 := E.c4
    have h4 := E.len
    have : rows.length * nc rows ≤ 100 * 4 := Nat.mul_le_mul h4 h3
    omega
theorem refLay0 (rows : List Row) (w : Int) (hl : rows.length ≤ 100) (he : ∀ r ∈ rows, ∀ x ∈ r, x.length ≤ 1000) : Am.Fn Try.prog 12 [1, 0, 0] [RWS rows, I w] (layPV .agg UCL UCL CL rows w) := by
  have hev := Even_fn rows (by omega)
  refine fn_introX mixed (X := X12) c12 5 (by simp [X12]) fun Q hR hN => ?_
  by_cases t1 : w < 24
  · simp [X12, t1]
    refine hR _ _ ?_
    rw [layPV, if_pos (.inl t1)]
    simp [X12]
  by_cases t2 : 60 < w
  · simp [X12, t1, t2]
    refine hR _ _ ?_
    rw [layPV, if_pos (.inr t2)]
    simp [X12]
  by_cases h0 : evenB rows = true
  · rw [h0] at hev
    have E := Ev.of h0 hl he
    simp [X12, t1, t2]
    refine call_of hev ?_
    simp
    obtain ⟨hp, h1, h4, ha, hl', he'⟩ := id E
    refine loopX (fun (j : Nat) vs h => j ≤ rows.length ∧ ClAtR rows j ∧ vs = [RWS rows, I w, .ptr 4 1 0, I j, .undef, .undef, .undef, .undef, .undef, .undef, .undef, .undef, .undef, .undef, .undef, .undef] ∧ h = [dd, dd, dd, dd, (1, .var [.nils, I 0, I 0])]) (fun j => rows.length - j) 0 ?_ ?_
    · simp
      intro i hi hi'; omega
    · rintro j vs h ⟨g1, g2, rfl, rfl⟩ Q' hK hX hR'
      by_cases hj : j < rows.length
      · have hw2 : IntKind.i64.wrap ((j : Int) + 1) = ((j + 1 : Nat) : Int) := wrap_ok (by omega) (by omega)
        simp [hj]
        refine loopX (fun (k : Nat) vs h => k ≤ rows[j].length ∧ ClIn rows[j] k ∧ vs = [RWS rows, I w, .ptr 4 1 0, I j, I k, .undef, .undef, .undef, .undef, .undef, .undef, .undef, .undef, .undef, .undef, .undef] ∧ h = [dd, dd, dd, dd, (1, .var [.nils, I 0, I 0])]) (fun k => rows[j].length - k) 0 ?_ ?_
        · simp
          intro i hi hi'; omega
        · rintro k vs h ⟨g3, g4, rfl, rfl⟩ Q2 hK2 hX2 hR2
          have haj := ha j hj
          by_cases hk : k < rows[j].length
          · have hB := Clean_fn rows[j][k] (by have := he' j hj k hk; unfold maxLen; omega)
            have hw3 : IntKind.i64.wrap ((k : Int) + 1) = ((k + 1 : Nat) : Int) := wrap_ok (by omega) (by omega)
            simp [hj, hk]
            refine call_of hB ?_
            by_cases hc : cl rows[j][k] = true
            · have hn : ClIn rows[j] (k + 1) := fun i hi hik => by
                by_cases hik' : i < k
                · exact g4 i hi hik'
                · obtain rfl : i = k := by omega
                  exact hc
              rw [hc]
              simp [hw3]
              refine hK2 (k + 1) _ _ (by omega) ?_
              simp [hn]; omega
            · have hc' : cl rows[j][k] = false := by simpa using hc
              have hno := clB_not hj hk hc'
              rw [hc']
              simp
              refine hR2 _ _ ?_
              simp
              refine hR' _ _ ?_
              simp
              refine hR _ _ ?_
              rw [layPV, if_neg (by omega), if_neg (by rw [h0]; simp), if_pos hno]
              simp [X12]
          · obtain rfl : k = rows[j].length := by omega
            have hn : ClAtR rows (j + 1) := fun i hi hij k' hk' => by
              by_cases hij' : i < j
              · exact g2 i hi hij' k' hk'
              · obtain rfl : i = j := by omega
                exact g4 k' hk' hk'
            simp [hj]
            refine hX2 _ _ _ ?_
            simp [hw2]
            refine hK (j + 1) _ _ (by omega) ?_
            simp [hn]; omega
      · obtain rfl : j = rows.length := by omega
        have hcB := clB_of g2
        have hW := width_fn rows E
        simp
        refine hX _ _ _ ?_
        simp
        refine call_of hW ?_
        rw [layPV, if_neg (by omega), if_neg (by rw [h0]; simp), if_neg (by rw [hcB]; simp)] at hR
        by_cases hw1 : (widthN rows : Int) ≤ w
        · rw [if_pos hw1] at hR
          have hC := Columns_fn rows E
          simp [hw1]
          refine call_of hC ?_
          simp
          refine hR _ _ ?_
          simp [X12]
        · rw [if_neg hw1] at hR
          have hS := Stairs_fn rows E
          obtain ⟨q1, q2⟩ := stairs_all E
          have hL := Longest_fn (stairsL rows) q2 q1
          simp [hw1]
          refine call_of hS ?_
          have hfz : List.map (frzE ∘ UCL) (stairsL rows) = (stairsL rows).map CL := List.map_congr_left fun r _ => rfl
          simp [hfz]
          refine call_of hL ?_
          by_cases hw2 : (longest (stairsL rows) : Int) ≤ w
          · rw [if_pos hw2] at hR
            simp [hw2, hfz]
            refine hR _ _ ?_
            simp [X12]
          · rw [if_neg hw2] at hR
            have hT := List_fn rows E (fun j hj k hk => g2 j hj hj k hk) w.toNat (by omega)
            have hwt : ((w.toNat : Nat) : Int) = w := by omega
            rw [hwt] at hT
            unfold listR at hT
            simp [hw2, hfz]
            refine call_of hT ?_
            by_cases hf : rows.all (fitR w.toNat) = true
            · rw [if_pos hf] at hR ⊢
              simp
              refine hR _ _ ?_
              simp [X12]
            · rw [if_neg hf] at hR ⊢
              simp
              refine hR _ _ ?_
              simp [X12]
  · have h0' : evenB rows = false := by simpa using h0
    rw [h0'] at hev
    simp [X12, t1, t2]
    refine call_of hev ?_
    simp
    refine hR _ _ ?_
    rw [layPV, if_neg (by omega), if_pos h0']
    simp [X12]
abbrev resPV (mk : List PV → PV) (r : Res) : PV := mk [CLL r.L, I r.form, I r.e]
theorem nrUCL (b : List Word) : (b.map UCL).all noRefE = true := List.all_eq_true.2 fun x hx => by obtain ⟨r, _, rfl⟩ := List.mem_map.1 hx; rfl
theorem nrCL (b : List Word) : (b.map CL).all noRefE = true := List.all_eq_true.2 fun x hx => by obtain ⟨r, _, rfl⟩ := List.mem_map.1 hx; rfl
theorem fzUCL (b : List Word) : (b.map UCL).map frzE = b.map CL := by rw [List.map_map]; exact List.map_congr_left fun r _ => rfl
theorem fzCL (b : List Word) : (b.map CL).map frzE = b.map CL := by rw [List.map_map]; exact List.map_congr_left fun r _ => rfl
theorem lay_frzA {f : FuncId} {args : List PV} {rows : List Row} {w : Int} {f1 f2 f3 : Word → PV} (h1 : f1 = UCL ∨ f1 = CL) (h2 : f2 = UCL ∨ f2 = CL) (h3 : f3 = UCL ∨ f3 = CL) (h : Am.Fn Try.prog f [1, 0, 0] args (layPV .agg f1 f2 f3 rows w)) : Am.Fn Try.prog f [1, 0, 0] args (resPV .agg (layR rows w)) := by
  have key : ∀ (g : Word → PV) (l : List Word) (a b : Int), (g = UCL ∨ g = CL) → Am.Fn Try.prog f [1, 0, 0] args (.agg [.uslc (l.map g), I a, I b]) → Am.Fn Try.prog f [1, 0, 0] args (.agg [CLL l, I a, I b]) := fun g l a b hg hh => by
    rcases hg with rfl | rfl
    · have := Fn_aggF (nrUCL l) hh; rw [fzUCL] at this; exact this
    · have := Fn_aggF (nrCL l) hh; rw [fzCL] at this; exact this
  unfold layPV at h
  unfold resPV layR
  split at h
  · rename_i c; rw [if_pos c]; exact Fn_aggN h
  rename_i c; rw [if_neg c]
  split at h
  · rename_i c; rw [if_pos c]; exact Fn_aggN h
  rename_i c; rw [if_neg c]
  split at h
  · rename_i c; rw [if_pos c]; exact Fn_aggN h
  rename_i c; rw [if_neg c]
  split at h
  · rename_i c; rw [if_pos c]; exact key _ _ _ _ h1 h
  rename_i c; rw [if_neg c]
  split at h
  · rename_i c; rw [if_pos c]; exact key _ _ _ _ h2 h
  rename_i c; rw [if_neg c]
  split at h
  · rename_i c; rw [if_pos c]; exact key _ _ _ _ h3 h
  · rename_i c; rw [if_neg c]; exact Fn_aggN h
theorem refLay_fn (rows : List Row) (w : Int) (hl : rows.length ≤ 100) (he : ∀ r ∈ rows, ∀ x ∈ r, x.length ≤ 1000) : Am.Fn Try.prog 12 [1, 0, 0] [RWS rows, I w] (resPV .agg (layR rows w)) :=
  lay_frzA (.inl rfl) (.inl rfl) (.inr rfl) (refLay0 rows w hl he)
end Go.Proofs.Ytfpkcjjgooigbaa.C
