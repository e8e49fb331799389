/-
  Chapter 20: the reference's List.
-/
import Derived.Test.YtfpkcjjgooigbaaQChA
namespace Go.Proofs.Ytfpkcjjgooigbaa.C
set_option linter.unusedSimpArgs false
set_option linter.unusedVariables false
set_option linter.unusedSectionVars false
open Go.Proofs.Ytfpkcjjgooigbaa.Am
open Go.Proofs.Ytfpkcjjgooigbaa.L (mixed wrap_ok I U CL CLL UCL Word clean words zeros brk brkG longG breakR errR okI)
set_option maxHeartbeats 8000000
theorem brkG_len (W i1 : Nat) : ∀ (ws : List Word) (cur : Word), (brkG W i1 cur ws).length ≤ ws.length + 1
  | [], cur => by simp [brkG]
  | w :: r, cur => by
    unfold brkG
    split
    · have := brkG_len W i1 r (zeros i1 ++ w); simp; omega
    · have := brkG_len W i1 r (cur ++ 0 :: w); simp; omega
theorem brk_len (W i0 i1 : Nat) (ws : List Word) : (brk W i0 i1 ws).length ≤ ws.length := by
  cases ws with
  | nil => simp [brk]
  | cons w r => unfold brk; have := brkG_len W i1 r (zeros i0 ++ w); simp; omega
theorem brkG_ne (W i1 : Nat) : ∀ (ws : List Word) (cur : Word), brkG W i1 cur ws ≠ []
  | [], cur => by simp [brkG]
  | w :: r, cur => by
    unfold brkG
    split
    · simp
    · exact brkG_ne W i1 r _
theorem brk_ne (W i0 i1 : Nat) (l : Word) : brk W i0 i1 (words l) ≠ [] := by
  cases h : words l with
  | nil => exact absurd h (L.wordsG_ne l [])
  | cons w r => exact brkG_ne W i1 r _
/-- clean entries -/
def ClE (rows : List Row) : Prop := ∀ (j : Nat) (h : j < rows.length) (k : Nat) (h' : k < rows[j].length), (clean rows[j][k]).2 = true
def listU (w : Nat) (rows : List Row) (j : Nat) : List Word := ((rows.take j).map fun r => listPre w r r.length).flatten
theorem listU_succ {w : Nat} {rows : List Row} {j : Nat} (hj : j < rows.length) : listU w rows (j + 1) = listU w rows j ++ listPre w rows[j] rows[j].length := by
  unfold listU; rw [List.take_succ_eq_append_getElem hj, List.map_append, List.flatten_append]; simp
theorem listU_all (w : Nat) (rows : List Row) : listU w rows rows.length = listL w rows := by unfold listU listL; rw [List.take_length]
theorem words_len (l : Word) : (words l).length ≤ l.length + 1 := (L.wordsG_len l []).1
theorem listPre_len {rows : List Row} (E : Ev rows) {w j : Nat} (hj : j < rows.length) : ∀ k, k ≤ rows[j].length → (listPre w rows[j] k).length ≤ 1001 * k
  | 0, _ => by simp [listPre]
  | k + 1, h => by
    have ih := listPre_len (w := w) E hj k (by omega)
    have he := E.ent j hj k (by omega)
    have h1 := brk_len w (4 * k) (4 * k + 2) (words rows[j][k])
    have h2 := words_len rows[j][k]
    unfold listPre
    rw [List.getD_eq_getElem?_getD, List.getElem?_eq_getElem (by omega), Option.getD_some, List.length_append]
    omega
theorem listU_len {rows : List Row} (E : Ev rows) {w : Nat} : ∀ j, j ≤ rows.length → (listU w rows j).length ≤ 4004 * j
  | 0, _ => by simp [listU]
  | j + 1, h => by
    have ih := listU_len (w := w) E j (by omega)
    have h1 := listPre_len (w := w) E (show j < rows.length by omega) rows[j].length (Nat.le_refl _)
    have h2 := E.all j (by omega)
    have h3 := E.c4
    rw [listU_succ (by omega), List.length_append]
    omega
def FitIn (w : Nat) (r : Row) (k : Nat) : Prop := ∀ (i : Nat), i < k → fitB w i (r.getD i []) = true
def FitAt (w : Nat) (rows : List Row) (j : Nat) : Prop := ∀ (i : Nat) (h : i < rows.length), i < j → fitR w rows[i] = true
theorem fitR_of {w : Nat} {r : Row} (h : FitIn w r r.length) : fitR w r = true := by
  unfold fitR; rw [List.all_eq_true]; intro i hi; exact h i (List.mem_range.1 hi)
theorem fitR_not {w : Nat} {r : Row} {k : Nat} (hk : k < r.length) (h : fitB w k (r.getD k []) = false) : fitR w r = false := by
  rw [← Bool.not_eq_true]; unfold fitR; rw [List.all_eq_true]; intro hh; have := hh k (List.mem_range.2 hk); rw [h] at this; cases this
theorem all_of {w : Nat} {rows : List Row} (h : FitAt w rows rows.length) : rows.all (fitR w) = true := by
  rw [List.all_eq_true]; intro r hr; obtain ⟨i, hi, rfl⟩ := List.getElem_of_mem hr; exact h i hi hi
theorem all_not {w : Nat} {rows : List Row} {j : Nat} (hj : j < rows.length) (h : fitR w rows[j] = false) : rows.all (fitR w) = false := by
  rw [← Bool.not_eq_true]; rw [List.all_eq_true]; intro hh; have := hh _ (List.getElem_mem hj); rw [h] at this; cases this
def listR (w : Nat) (rows : List Row) : PV := if rows.all (fitR w) = true then .tup [.uslc ((listL w rows).map CL), .bool true] else .tup [.nils, .bool false]
theorem List_fn (rows : List Row) (E : Ev rows) (hC : ClE rows) (w : Nat) (hw : 24 ≤ w ∧ w ≤ 60) : Am.Fn Try.prog 25 [1, 0] [RWS rows, I w] (listR w rows) := by
  obtain ⟨hp, h1, h4, ha, hl, he⟩ := id E
  refine fn_introX mixed (X := X25) c25 6 (by simp [X25]) fun Q hR hN => ?_
  simp [X25]
  refine loopX (fun (p : Nat × List Word) vs h => p.1 ≤ rows.length ∧ FitAt w rows p.1 ∧ p.2 = listU w rows p.1 ∧ vs = [RWS rows, I w, .undef, .undef, .own 4 1 p.2.length 1 0 p.2.length, I p.1, .undef, .undef, .undef, .undef, .undef] ∧ h = [dd, dd, dd, dd, (1, .arr 1 0 false (p.2.map CL)), dd]) (fun p => rows.length - p.1) (0, []) ?_ ?_
  · simp [listU]
    intro i hi hi'; omega
  · rintro ⟨j, o⟩ vs h ⟨g1, gF, g2, rfl, rfl⟩ Q' hK hX hR'
    dsimp only at g1 g2 gF
    by_cases hj : j < rows.length
    · have hol := listU_len (w := w) E j (by omega)
      rw [← g2] at hol
      have hw2 : IntKind.i64.wrap ((j : Int) + 1) = ((j + 1 : Nat) : Int) := wrap_ok (by omega) (by omega)
      simp [hj]
      refine loopX (fun (p : Nat × List Word) vs h => p.1 ≤ rows[j].length ∧ FitIn w rows[j] p.1 ∧ p.2 = o ++ listPre w rows[j] p.1 ∧ vs = [RWS rows, I w, .undef, .undef, .own 4 1 p.2.length 1 0 p.2.length, I j, I p.1, .undef, .undef, .undef, .undef] ∧ h = [dd, dd, dd, dd, (1, .arr 1 0 false (p.2.map CL)), dd]) (fun p => rows[j].length - p.1) (0, o) ?_ ?_
      · simp [listPre]
        intro i hi; omega
      · rintro ⟨k, a⟩ vs h ⟨g3, gI, g4, rfl, rfl⟩ Q2 hK2 hX2 hR2
        dsimp only at g3 gI g4
        have haj := ha j hj
        have hal := listPre_len (w := w) E hj k g3
        have hal2 : a.length = o.length + (listPre w rows[j] k).length := by rw [g4, List.length_append]
        by_cases hk : k < rows[j].length
        · have hB := L.breakRef_fn rows[j][k] (w : Int) ((4 * k : Nat) : Int) ((4 * k + 2 : Nat) : Int) (he j hj k hk)
          have hok : okI ((4 * k : Nat) : Int) ((4 * k + 2 : Nat) : Int) = true := by simp [okI]; omega
          have ec1 : ((4 * k : Nat) : Int) = 4 * (k : Int) := by omega
          have ec2 : ((4 * k + 2 : Nat) : Int) = 4 * (k : Int) + 2 := by omega
          have w1 : IntKind.i64.wrap (4 * (k : Int)) = 4 * (k : Int) := wrap_ok (by omega) (by omega)
          have w4 : IntKind.i64.wrap (4 * (k : Int) + 2) = 4 * (k : Int) + 2 := wrap_ok (by omega) (by omega)
          have hw3 : IntKind.i64.wrap ((k : Int) + 1) = ((k + 1 : Nat) : Int) := wrap_ok (by omega) (by omega)
          have hgd : rows[j].getD k [] = rows[j][k] := by rw [List.getD_eq_getElem?_getD, List.getElem?_eq_getElem hk]; rfl
          unfold breakR at hB
          rw [if_neg (by rw [hok]; simp; omega), if_neg (by rw [hC j hj k hk]; simp)] at hB
          by_cases hf : fitB w k rows[j][k] = true
          · have hf' : longG ((w : Int) - max ((4 * k : Nat) : Int) ((4 * k + 2 : Nat) : Int)) 0 (words rows[j][k]) < 0 := of_decide_eq_true hf
            rw [if_neg (by omega)] at hB
            have hbl := brk_len w (4 * k) (4 * k + 2) (words rows[j][k])
            have hwl := words_len rows[j][k]
            have hel := he j hj k hk
            have hlp : o ++ listPre w rows[j] (k + 1) = a ++ brk w (4 * k) (4 * k + 2) (words rows[j][k]) := by
              rw [g4, listPre, hgd, List.append_assoc]
            have hIn : FitIn w rows[j] (k + 1) := fun i hi => by
              by_cases hik : i < k
              · exact gI i hik
              · obtain rfl : i = k := by omega
                rw [hgd]; exact hf
            simp only [Int.toNat_natCast] at hB
            have hbn := brk_ne w (4 * k) (4 * k + 2) rows[j][k]
            generalize brk w (4 * k) (4 * k + 2) (words rows[j][k]) = b at hB hbl hlp hbn
            have hbn' : ¬ ∀ x, ¬ x ∈ b := fun h => hbn (List.eq_nil_iff_forall_not_mem.2 h)
            have hfz : List.map (frzE ∘ UCL) b = b.map CL := List.map_congr_left fun r _ => rfl
            have c1 : (a.length + b.length) * 24 ≤ 140737488355328 := by omega
            rw [ec1, ec2] at hB
            simp [hj, hk, w1, w4]
            refine call_of hB ?_
            simp [hfz, c1, hw3, hbn']
            refine hK2 (k + 1, a ++ b) _ _ (by dsimp only; omega) ?_
            simp [hlp, hIn]
            omega
          · have hf' : ¬ longG ((w : Int) - max ((4 * k : Nat) : Int) ((4 * k + 2 : Nat) : Int)) 0 (words rows[j][k]) < 0 := fun h => hf (decide_eq_true h)
            rw [if_pos (by omega)] at hB
            have hno := all_not hj (fitR_not hk (by rw [hgd]; exact Bool.not_eq_true _ ▸ hf))
            unfold errR at hB
            rw [ec1, ec2] at hB
            simp [hj, hk, w1, w4]
            refine call_of hB ?_
            simp
            refine hR2 _ _ ?_
            simp
            refine hR' _ _ ?_
            simp
            refine hR _ _ ?_
            unfold listR
            rw [if_neg (by rw [hno]; simp)]
            simp [X25]
        · obtain rfl : k = rows[j].length := by omega
          have hn := listU_succ (w := w) hj
          rw [← g2, ← g4] at hn
          have hFA : FitAt w rows (j + 1) := fun i hi hij => by
            by_cases hij' : i < j
            · exact gF i hi hij'
            · obtain rfl : i = j := by omega
              exact fitR_of gI
          simp [hj]
          refine hX2 _ _ _ ?_
          simp [hw2]
          refine hK (j + 1, a) _ _ (by dsimp only; omega) ?_
          simp [hn, hFA]
          omega
    · obtain rfl : j = rows.length := by omega
      have hall := all_of gF
      rw [listU_all] at g2
      simp
      refine hX _ _ _ ?_
      simp
      refine hR _ _ ?_
      unfold listR
      rw [if_pos hall, g2]
      simp [X25]
end Go.Proofs.Ytfpkcjjgooigbaa.C
