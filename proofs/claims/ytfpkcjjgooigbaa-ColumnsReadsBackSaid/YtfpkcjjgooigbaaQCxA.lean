/-
  Chapter 20: readColumns.
-/
import Derived.Test.YtfpkcjjgooigbaaQCuA
namespace Go.Proofs.Ytfpkcjjgooigbaa.C
set_option linter.unusedSimpArgs false
set_option linter.unusedVariables false
set_option linter.unusedSectionVars false
open Go.Proofs.Ytfpkcjjgooigbaa.Am
open Go.Proofs.Ytfpkcjjgooigbaa.L (mixed wrap_ok I U CL CLL UCL Word clean words zeros indent)
set_option maxHeartbeats 8000000
def okPc (cols : Nat) (x : Word) : Bool := decide ((pieces x).length = cols) && (pieces x).all cl
def aheadN (rows : List Row) : Nat := 2 * (nc rows - 1) + sumW rows (nc rows - 1)
def okLn (rows : List Row) (cols : Nat) (x : Word) : Bool := decide (x.length = aheadN rows + ((pieces x).getD (cols - 1) []).length)
def okC (l : List Word) (cols : Nat) : Bool := l.all (okPc cols) && l.all (okLn (l.map pieces) cols)
def readCP (l : List Word) (cols : Nat) : PV := if okC l cols = true then .tup [RWS (l.map pieces), .bool (colsL (l.map pieces) == l)] else .tup [.nils, .bool false]
theorem piG_len : ∀ (n : Nat) (cur l : Word), (piG n cur l).length ≤ l.length + 1 ∧ ∀ x ∈ piG n cur l, x.length ≤ cur.length + l.length
  | 0, cur, l => by simp [piG]
  | n + 1, cur, [] => by simp [piG]
  | n + 1, cur, c :: r => by
    unfold piG
    split
    · rename_i h2
      have hi := indent_le (c :: r)
      obtain ⟨h3, h4⟩ := piG_len n [] ((c :: r).drop (indent (c :: r)))
      rw [List.length_drop] at h3 h4
      refine ⟨by rw [List.length_cons]; omega, fun x hx => ?_⟩
      rcases List.mem_cons.1 hx with rfl | hx
      · omega
      · have := h4 x hx; simp only [List.length_nil] at this; omega
    · obtain ⟨h3, h4⟩ := piG_len n (cur ++ [c]) r
      refine ⟨by simp only [List.length_cons]; omega, fun x hx => ?_⟩
      have := h4 x hx
      simp at this ⊢
      omega
theorem pieces_len (l : Word) : (pieces l).length ≤ l.length + 1 ∧ ∀ x ∈ pieces l, x.length ≤ l.length := by
  obtain ⟨h1, h2⟩ := piG_len l.length [] l
  exact ⟨h1, fun x hx => by have := h2 x hx; simpa using this⟩
theorem readC_fn (l : List Word) (cols : Nat) (hp : 0 < l.length) (hl : l.length ≤ 100) (hx : ∀ x ∈ l, x.length ≤ 1000) (hc : 1 ≤ cols ∧ cols ≤ 4) : Am.Fn Try.prog 26 [1, 0] [CLL l, I cols] (readCP l cols) := by
  refine fn_introX mixed (X := X26) c26 6 (by simp [X26]) fun Q hR hN => ?_
  simp [X26]
  refine loopX (fun (p : Nat × List Row) vs h => p.1 ≤ l.length ∧ p.2 = (l.take p.1).map pieces ∧ (l.take p.1).all (okPc cols) = true ∧
    vs = [CLL l, I cols, .undef, .undef, .own 4 1 p.2.length 1 0 p.2.length, .undef, .undef, .undef, .undef, .undef, .undef, .undef, CLL l, I l.length, I p.1, .undef, .undef, .undef, .undef, .undef, .undef, .undef, .undef, .undef, .undef, .undef, .undef] ∧ h = [dd, dd, dd, dd, (1, .arr 1 0 false (p.2.map URW)), dd]) (fun p => l.length - p.1) (0, []) ?_ ?_
  · simp
  · rintro ⟨i, o⟩ vs h ⟨g1, g2, g3, rfl, rfl⟩ Q1 hK hX hR'
    dsimp only at g1 g2 g3
    have hol : o.length = i := by rw [g2]; simp; omega
    by_cases hi : i < l.length
    · have hB := pieces_fn l[i] (hx _ (List.getElem_mem hi))
      obtain ⟨r, hr⟩ : ∃ r, r = pieces l[i] := ⟨_, rfl⟩
      obtain ⟨hrl, hrx⟩ := pieces_len l[i]
      have hxi := hx _ (List.getElem_mem hi)
      rw [← hr] at hB hrl hrx
      have ts : l.take (i + 1) = l.take i ++ [l[i]] := List.take_succ_eq_append_getElem hi
      have w1 : IntKind.i64.wrap ((i : Int) + 1) = ((i + 1 : Nat) : Int) := wrap_ok (by omega) (by omega)
      simp [hi]
      refine call_of hB ?_
      by_cases hrc : r.length = cols
      · simp [hrc]
        refine loopX (fun (k : Nat) vs h => k ≤ cols ∧ (∀ (t : Nat) (h : t < r.length), t < k → cl r[t] = true) ∧
          vs = [CLL l, I cols, .undef, .undef, .own 4 1 o.length 1 0 o.length, .undef, .own 5 1 cols 1 0 cols, .undef, .undef, .undef, .undef, .undef, CLL l, I l.length, I i, .undef, .undef, .own 5 1 cols 1 0 cols, I cols, I k, .undef, .undef, .undef, .undef, .undef, .undef, .undef] ∧ h = [dd, dd, dd, dd, (1, .arr 1 0 false (o.map URW)), (1, .arr 1 0 false (r.map CL))]) (fun k => cols - k) 0 ?_ ?_
        · simp
        · rintro k vs h ⟨q1, q2, rfl, rfl⟩ Q2 hK2 hX2 hR2
          by_cases hk : k < cols
          · have hkr : k < r.length := by omega
            have hB2 := L.cleanP_fn r[k] (by have := hrx _ (List.getElem_mem hkr); simp [maxLen]; omega)
            have w2 : IntKind.i64.wrap ((k : Int) + 1) = ((k + 1 : Nat) : Int) := wrap_ok (by omega) (by omega)
            simp [hk, hrc]
            refine call_of hB2 ?_
            by_cases hcl : cl r[k] = true
            · rw [show (clean r[k]).2 = true from hcl]
              simp [w2]
              refine hK2 (k + 1) _ _ (by omega) ?_
              simp
              refine ⟨by omega, fun t ht htk => ?_⟩
              by_cases htk' : t < k
              · exact q2 t ht htk'
              · obtain rfl : t = k := by omega
                exact hcl
            · have hcl' : (clean r[k]).2 = false := by simpa [cl] using hcl
              have hno : okC l cols = false := by
                rw [← Bool.not_eq_true]; unfold okC; rw [Bool.and_eq_true, List.all_eq_true]
                rintro ⟨hh, _⟩
                have := hh _ (List.getElem_mem hi)
                rw [okPc, ← hr, Bool.and_eq_true, List.all_eq_true] at this
                exact hcl (this.2 _ (List.getElem_mem hkr))
              rw [hcl']
              simp
              refine hR2 _ _ ?_
              simp
              refine hR' _ _ ?_
              simp
              refine hR _ _ ?_
              rw [readCP, hno, if_neg (by simp)]
              simp [X26]
          · obtain rfl : k = cols := by omega
            have c1 : (o.length + 1) * 24 ≤ 140737488355328 := by omega
            simp
            refine hX2 _ _ _ ?_
            have hok : okPc k l[i] = true := by
              rw [okPc, ← hr, hrc, Bool.and_eq_true, List.all_eq_true]
              refine ⟨by simp, fun x hx' => ?_⟩
              obtain ⟨t, ht, rfl⟩ := List.getElem_of_mem hx'
              exact q2 t ht (by omega)
            have hfz : List.map (frzE ∘ CL) r = r.map CL := List.map_congr_left fun r _ => rfl
            simp [c1, w1, hrc, hfz]
            refine hK (i + 1, o ++ [r]) _ _ (by dsimp only; omega) ?_
            have e1 : o ++ [r] = (l.take (i + 1)).map pieces := by rw [ts, List.map_append, ← g2, hr]; rfl
            have e2 : (l.take (i + 1)).all (okPc k) = true := by rw [ts, List.all_append, g3]; simpa using hok
            rw [e2, ← e1]
            simp
            omega
      · have hno : okC l cols = false := by
          rw [← Bool.not_eq_true]; unfold okC; rw [Bool.and_eq_true, List.all_eq_true]
          rintro ⟨hh, _⟩
          have := hh _ (List.getElem_mem hi)
          rw [okPc, ← hr, Bool.and_eq_true] at this
          exact hrc (of_decide_eq_true this.1)
        have hrc' : ¬ ((r.length : Int) = (cols : Int)) := by omega
        simp [hrc, hrc']
        refine hR' _ _ ?_
        simp
        refine hR _ _ ?_
        rw [readCP, hno, if_neg (by simp)]
        simp [X26]
    · obtain rfl : i = l.length := by omega
      rw [List.take_length] at g2 g3
      have hne : 0 < o.length := by omega
      have hrow : ∀ (j : Nat) (h : j < o.length), o[j].length = cols ∧ ∀ x ∈ o[j], x.length ≤ 1000 := fun j hj => by
        subst g2
        have hjl : j < l.length := by simpa using hj
        rw [List.getElem_map]
        have := (List.all_eq_true.1 g3) _ (List.getElem_mem hjl)
        rw [okPc, Bool.and_eq_true] at this
        refine ⟨of_decide_eq_true this.1, fun x hx' => ?_⟩
        have h1 := (pieces_len l[j]).2 x hx'
        have h2 := hx _ (List.getElem_mem hjl)
        omega
      have hnc : nc o = cols := by
        unfold nc; rw [List.getD_eq_getElem?_getD, List.getElem?_eq_getElem hne]; exact (hrow 0 hne).1
      have E : Ev o := ⟨hne, by omega, by omega, fun j hj => by rw [hnc]; exact (hrow j hj).1, by omega, fun j hj k hk => (hrow j hj).2 _ (List.getElem_mem hk)⟩
      have hA : Am.Fn Try.prog 36 [0] [RWS o] (I (aheadN o : Nat)) := ahead_fn o E
      have hfz : List.map (frzE ∘ URW) o = o.map RW := List.map_congr_left fun r _ => rfl
      have hal : aheadN o ≤ 10000 := by
        unfold aheadN; have := sumW_le E (nc o - 1); omega
      have hIC := inColumns_frz o E
      simp
      refine hX _ _ _ ?_
      simp [hfz]
      refine call_of hA ?_
      simp
      obtain ⟨A, hAe⟩ : ∃ A, A = aheadN o := ⟨_, rfl⟩
      rw [← hAe]
      rw [← hAe] at hal
      obtain ⟨c, hcc⟩ : ∃ c, c = cols - 1 := ⟨_, rfl⟩
      have w0 : IntKind.i64.wrap ((cols : Int) - 1) = (c : Int) := by rw [wrap_ok (by omega) (by omega)]; omega
      refine loopX (fun (k : Nat) vs h => k ≤ o.length ∧ (∀ (t : Nat) (h : t < l.length), t < k → okLn o cols l[t] = true) ∧
        vs = [CLL l, I cols, .undef, .undef, .own 4 1 o.length 1 0 o.length, .undef, .undef, .undef, .undef, I A, .undef, .undef, .undef, .undef, .undef, .undef, .undef, .undef, .undef, .undef, .undef, .undef, .own 4 1 o.length 1 0 o.length, I o.length, I k, .undef, .undef] ∧ h = [dd, dd, dd, dd, (1, .arr 1 0 false (o.map URW)), dd]) (fun k => o.length - k) 0 ?_ ?_
      · simp
      · rintro k vs h ⟨q1, q2, rfl, rfl⟩ Q2 hK2 hX2 hR2
        by_cases hk : k < o.length
        · have hkl : k < l.length := by omega
          obtain ⟨hk1, hk2⟩ := hrow k hk
          have hck : c < o[k].length := by omega
          have hxl := hk2 _ (List.getElem_mem hck)
          have hok : o[k] = pieces l[k] := by simp only [g2, List.getElem_map]
          have w2 : IntKind.i64.wrap ((k : Int) + 1) = ((k + 1 : Nat) : Int) := wrap_ok (by omega) (by omega)
          have w3 : IntKind.i64.wrap ((A : Int) + (o[k][c].length : Int)) = ((A + o[k][c].length : Nat) : Int) := wrap_ok (by omega) (by omega)
          have hdef : okLn o cols l[k] = decide (l[k].length = A + o[k][c].length) := by
            unfold okLn
            rw [← hok, ← hcc, ← hAe, List.getD_eq_getElem?_getD, List.getElem?_eq_getElem hck]; rfl
          by_cases e : l[k].length = A + o[k][c].length
          · have e' : (l[k].length : Int) = (A : Int) + (o[k][c].length : Int) := by omega
            simp [hk, hkl, w0, hck, w3, e', w2]
            refine hK2 (k + 1) _ _ (by omega) ?_
            simp
            refine ⟨by omega, fun t ht htk => ?_⟩
            by_cases htk' : t < k
            · exact q2 t ht htk'
            · obtain rfl : t = k := by omega
              rw [hdef]; exact decide_eq_true e
          · have e' : ¬ (l[k].length : Int) = (A : Int) + (o[k][c].length : Int) := by omega
            have hno : okC l cols = false := by
              rw [← Bool.not_eq_true]; unfold okC; rw [Bool.and_eq_true, List.all_eq_true, List.all_eq_true, ← g2]
              rintro ⟨_, hh⟩
              have := hh _ (List.getElem_mem hkl)
              rw [hdef] at this
              exact e (of_decide_eq_true this)
            simp [hk, hkl, w0, hck, w3, e']
            refine hR2 _ _ ?_
            simp
            refine hR _ _ ?_
            rw [readCP, hno, if_neg (by simp)]
            simp [X26]
        · obtain rfl : k = o.length := by omega
          simp
          refine hX2 _ _ _ ?_
          simp [hfz]
          refine call_of hIC ?_
          simp
          have hcl : (colsL o).length ≤ 100000 := by simp [colsL]; omega
          have hcx : ∀ x ∈ colsL o, x.length ≤ 100000 := fun x hx' => by
            unfold colsL at hx'
            obtain ⟨r, hr, rfl⟩ := List.mem_map.1 hx'
            obtain ⟨j, hj, rfl⟩ := List.getElem_of_mem hr
            have := colPre_len E hj (nc o) (Nat.le_refl _)
            omega
          refine callv_of (equalF_fi (colsL o) l _ _ _ _ _ _ hcl hcx) ?_
          simp
          have hyes : okC l cols = true := by
            unfold okC; rw [g3, Bool.true_and, List.all_eq_true, ← g2]
            intro x hx'
            obtain ⟨t, ht, rfl⟩ := List.getElem_of_mem hx'
            exact q2 t ht (by omega)
          refine hR _ _ ?_
          rw [readCP, hyes, if_pos rfl, ← g2]
          simp [X26]
end Go.Proofs.Ytfpkcjjgooigbaa.C
