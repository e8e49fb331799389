/-
  Chapter 23: shapes, single volumes, whole divisions.
-/
import Derived.Test.YtnipkbhgaljcoaaVbA
namespace Go.Proofs.Ytnipkbhgaljcoaa.V
set_option linter.unusedSimpArgs false
set_option linter.unusedVariables false
set_option linter.unusedSectionVars false
open Go.Proofs.Ytnipkbhgaljcoaa.Am
abbrev BL (xs : List Bool) : PV := .slc (xs.map .bool)
abbrev Bk (c : List (List Int)) (b : List Bool) (m : Int) : PV := .agg [LL c, BL b, I m]
theorem Shape_fn (c : List (List Int)) (b : List Bool) (m : Int) (hc : c.length ≤ maxLen) (hb : b.length < maxLen) : Am.Fn Try.prog 13 [0] [Bk c b m] (.bool (shp c b.length)) := by
  refine fn_introX mixed (X := X13) c13 1 (by simp [X13]) fun Q hR hN => ?_
  simp [X13, r_nil]
  refine call_of (Shaped_fn c _ hc ⟨by omega, by unfold maxLen at hb; omega⟩) ?_
  simp [callOk, r_nil]
  refine hR _ _ ?_
  simp [X13, fin]
def may (v m : Int) (i : Nat) (bi : Bool) : Bool := decide (1 ≤ v) && decide (v ≤ m) && (i == 0 || bi)
theorem May_fn (c : List (List Int)) (b : List Bool) (m : Int) (i j : Nat) {row : List Int} {v : Int} {bi : Bool} (hr : c[i]? = some row) (hv : row[j]? = some v) (hb : b[i]? = some bi) : Am.Fn Try.prog 19 [0] [Bk c b m, I i, I j] (.bool (may v m i bi)) := by
  refine fn_introX mixed (X := X19) c19 1 (by simp [X19]) fun Q hR hN => ?_
  by_cases h1 : 1 ≤ v
  · by_cases h2 : v ≤ m
    · by_cases h3 : i = 0
      · subst h3
        simp [X19, r_nil, hr, hv, h1, h2]
        refine hR _ _ ?_
        simp [X19, fin, may, h1, h2]
      · simp [X19, r_nil, hr, hv, hb, h1, h2, h3]
        refine hR _ _ ?_
        simp [X19, fin, may, h1, h2, h3]
    · simp [X19, r_nil, hr, hv, h1, h2]
      refine hR _ _ ?_
      simp [X19, fin, may, h1, h2]
  · simp [X19, r_nil, hr, hv, h1]
    refine hR _ _ ?_
    simp [X19, fin, may, h1]
def cst (c : List (List Int)) (i j : Nat) : Int := (c.getD i []).getD j 0
def okv (c : List (List Int)) (b : List Bool) (m : Int) (i j : Nat) : Bool := may (cst c i j) m i (b.getD i false)
def fitG (c : List (List Int)) (b : List Bool) (m : Int) (n : Nat) : Nat → List Int → Bool
  | f, [] => decide (f = n)
  | f, e :: r => decide ((f : Int) < e) && decide (e ≤ n) && okv c b m f e.toNat && fitG c b m n e.toNat r
def fits (c : List (List Int)) (b : List Bool) (m : Int) (ends : List Int) : Bool := shp c b.length && fitG c b m b.length 0 ends
theorem cst_get {c : List (List Int)} {n i j : Nat} (hs : shp c n = true) (hi : i < n) (hj : j ≤ n) : ∃ row, c[i]? = some row ∧ row[j]? = some (cst c i j) := by
  obtain ⟨h1, h2⟩ := shp_iff.1 hs
  have hi' : i < c.length := by omega
  have hl := h2 c[i] (List.getElem_mem hi')
  refine ⟨c[i], List.getElem?_eq_getElem hi', ?_⟩
  rw [List.getElem?_eq_getElem (by omega)]
  simp [cst, List.getD, List.getElem?_eq_getElem hi', List.getElem?_eq_getElem (show j < c[i].length by omega)]
theorem bget {b : List Bool} {i : Nat} (hi : i < b.length) : b[i]? = some (b.getD i false) := by
  simp [List.getD, List.getElem?_eq_getElem hi]
theorem Fits_fn (c : List (List Int)) (b : List Bool) (m : Int) (ends : List Int) (hc : c.length ≤ maxLen) (hb : b.length < maxLen) (hl : ends.length ≤ maxLen) : Am.Fn Try.prog 11 [0] [Bk c b m, L ends] (.bool (fits c b m ends)) := by
  refine fn_introX mixed (X := X11) c11 2 (by simp [X11]) fun Q hR hN => ?_
  simp [X11, r_nil]
  refine call_of (Shape_fn c b m hc hb) ?_
  cases hs : shp c b.length with
  | false =>
    simp [callOk, r_nil]
    refine hR _ _ ?_
    simp [X11, fin, fits, hs]
  | true =>
    simp [callOk, r_nil]
    refine loopX (fun (s : Nat × Nat) vs h => s.1 ≤ ends.length ∧ s.2 ≤ b.length ∧ fitG c b m b.length 0 ends = fitG c b m b.length s.2 (ends.drop s.1) ∧ vs = [.undef, L ends, .ptr 1 1 0, .undef, I s.2, I s.1, .undef, .undef, .undef] ∧ h = [(0, .dead), (1, .var [LL c, BL b, I m])]) (fun s => ends.length - s.1) (0, 0) ?_ ?_
    · simp [settled, settled, one]
    · rintro ⟨k, f⟩ vs h ⟨h1, h2, h3, rfl, rfl⟩ Q hK hX hR'
      dsimp only at h1 h2 h3
      by_cases hk : k < ends.length
      · have hwk : IntKind.i64.wrap ((k : Int) + 1) = ((k + 1 : Nat) : Int) := wrap_ok (by omega) (by unfold maxLen at hl; omega)
        obtain ⟨e, he⟩ : ∃ e, ends[k] = e := ⟨_, rfl⟩
        have hd : ends.drop k = e :: ends.drop (k + 1) := by
          rw [List.drop_eq_getElem_cons hk, he]
        rw [hd, fitG] at h3
        by_cases t1 : e ≤ f
        · simp [r_nil, hk, he, t1]
          refine hR' _ _ ?_
          simp [r_nil]
          refine hR _ _ ?_
          simp [X11, fin, fits, hs, h3]
          intro h; omega
        · have t1' : (f : Int) < e := by omega
          obtain ⟨j, rfl⟩ := Int.eq_ofNat_of_zero_le (show 0 ≤ e by omega)
          by_cases t2 : b.length < j
          · simp [r_nil, hk, he, t1, t2]
            refine hR' _ _ ?_
            simp [r_nil]
            refine hR _ _ ?_
            simp [X11, fin, fits, hs, h3]
            intro h h'; omega
          · obtain ⟨row, r1, r2⟩ := cst_get hs (show f < b.length by omega) (show j ≤ b.length by omega)
            simp [r_nil, hk, he, t1, t2]
            refine call_of (May_fn c b m f j r1 r2 (bget (by omega))) ?_
            change _ ∧ Xr _ _ ⟨_ ++ [thV _ _ (.bool (okv c b m f j))], _, _⟩ _
            have t2' : (j : Int) ≤ b.length := by omega
            cases t3 : okv c b m f j with
            | false =>
              simp [callOk, r_nil, hk, he, t3]
              refine hR' _ _ ?_
              simp [r_nil]
              refine hR _ _ ?_
              simp [X11, fin, fits, hs, h3, t3]
            | true =>
              simp [callOk, r_nil, hk, he, hwk, t3]
              refine hK (k + 1, j) _ _ (by dsimp only; omega) ?_
              simp [settled, settled, one]
              exact ⟨by omega, by omega, by rw [h3]; simp [t1', t2', t3]⟩
      · simp [r_nil, hk]
        refine hX _ _ _ ?_
        rw [List.drop_eq_nil_of_le (by omega), fitG] at h3
        simp [r_nil]
        refine hR _ _ ?_
        simp [X11, fin, fits, hs, h3]
end Go.Proofs.Ytnipkbhgaljcoaa.V
