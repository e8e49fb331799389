/-
  Chapter 26: strikes made out of raw ones.
-/
import Derived.Test.YtalgbgeocpbadaaQKsA
namespace Go.Proofs.Ytalgbgeocpbadaa.K
set_option linter.unusedSimpArgs false
set_option linter.unusedVariables false
set_option linter.unusedSectionVars false
open Go.Proofs.Ytalgbgeocpbadaa.Am
set_option maxHeartbeats 4000000
/-- increasing numbers below w -/
def incG (w : Int) : Int → List Int → List Int
  | _, [] => []
  | a, n :: r => if a + (1 + n % 8) < w then (a + (1 + n % 8)) :: incG w (a + (1 + n % 8)) r else incG w (a + (1 + n % 8)) r
abbrev UL (l : List Int) : PV := .slc (l.map (.int .u8))
theorem incG_len (w : Int) : ∀ (l : List Int) (a : Int), (incG w a l).length ≤ l.length
  | [], a => by simp [incG]
  | n :: r, a => by
    have := incG_len w r (a + (1 + n % 8))
    unfold incG; split <;> simp <;> omega
theorem incG_mem (w : Int) : ∀ (l : List Int) (a : Int) (x : Int), x ∈ incG w a l → a < x ∧ x < w
  | [], a, x, h => by simp [incG] at h
  | n :: r, a, x, h => by
    unfold incG at h
    split at h
    · rcases List.mem_cons.1 h with rfl | h
      · omega
      · have := incG_mem w r _ x h; omega
    · have := incG_mem w r _ x h; omega
theorem incG_pw (w : Int) : ∀ (l : List Int) (a : Int), (incG w a l).Pairwise (· < ·)
  | [], a => by simp [incG]
  | n :: r, a => by
    unfold incG
    split
    · exact List.pairwise_cons.2 ⟨fun x hx => (incG_mem w r _ x hx).1, incG_pw w r _⟩
    · exact incG_pw w r _
theorem inc_fn (l : List Int) (w : Nat) (hw : w ≤ 1000) (hl : l.length ≤ 1000) (hb : ∀ n ∈ l, 0 ≤ n ∧ n ≤ 255) : Am.Fn Try.prog 40 [1] [UL l, I w] (.uslc ((incG w (-1) l).map I)) := by
  refine fn_introX mixed (X := X40) c40 5 (by simp [X40]) fun Q hR hN => ?_
  simp [X40]
  refine loopX (fun (p : Nat × List Int × Int) vs h' => p.1 ≤ l.length ∧ p.2.1 ++ incG w p.2.2 (l.drop p.1) = incG w (-1) l ∧ -1 ≤ p.2.2 ∧ p.2.2 ≤ 8 * p.1 ∧ p.2.1.length ≤ p.1 ∧ vs = [UL l, I w, .undef, .own 3 1 p.2.1.length 1 0 p.2.1.length, I p.2.2, I p.1, .undef, .undef] ∧
    h' = [dd, dd, dd, (1, .arr 1 0 false (p.2.1.map I)), dd]) (fun p => l.length - p.1) (0, [], -1) ?_ ?_
  · simp
  · rintro ⟨i, out, a⟩ vs h' ⟨g1, g2, g3, g4, g5, rfl, rfl⟩ Q' hK hX hR'
    dsimp only at g1 g2 g3 g4 g5
    by_cases hi : i < l.length
    · have hw1 : IntKind.i64.wrap ((i : Int) + 1) = ((i + 1 : Nat) : Int) := wrap_ok (by omega) (by omega)
      obtain ⟨b1, b2⟩ := hb _ (List.getElem_mem hi)
      rw [List.drop_eq_getElem_cons hi, incG] at g2
      have hv : IntKind.i64.wrap (a + IntKind.i64.wrap (1 + IntKind.i64.wrap (l[i].tmod 8))) = a + (1 + l[i] % 8) := by
        rw [Int.tmod_eq_emod_of_nonneg b1, wrap_ok (n := l[i] % 8) (by omega) (by omega), wrap_ok (n := 1 + l[i] % 8) (by omega) (by omega), wrap_ok (by omega) (by omega)]
      have hv2 : IntKind.i64.wrap (a + IntKind.i64.wrap (1 + IntKind.i64.wrap (l[i] % 8))) = a + (1 + l[i] % 8) := by
        rw [wrap_ok (n := l[i] % 8) (by omega) (by omega), wrap_ok (n := 1 + l[i] % 8) (by omega) (by omega), wrap_ok (by omega) (by omega)]
      have c1 : (out.length + 1) * 8 ≤ 140737488355328 := by omega
      by_cases t : a + (1 + l[i] % 8) < w
      · rw [if_pos t] at g2
        simp [hi, hv, hv2, t, hw1, c1]
        refine hK (i + 1, out ++ [a + (1 + l[i] % 8)], a + (1 + l[i] % 8)) _ _ (by dsimp only; omega) ?_
        simp
        exact ⟨by omega, by simpa using g2, by omega, by omega, by omega⟩
      · rw [if_neg t] at g2
        simp [hi, hv, hv2, t, hw1]
        refine hK (i + 1, out, a + (1 + l[i] % 8)) _ _ (by dsimp only; omega) ?_
        simp
        exact ⟨by omega, g2, by omega, by omega, by omega⟩
    · rw [List.drop_eq_nil_of_le (by omega), incG, List.append_nil] at g2
      simp [hi]
      refine hX _ _ _ ?_
      simp
      refine hR _ _ ?_
      simp [X40, g2]
abbrev RSt := Int × List Int × List Int
abbrev RS (x : RSt) : PV := .agg [.int .u8 x.1, UL x.2.1, UL x.2.2]
def rsOk (x : RSt) : Prop := (0 ≤ x.1 ∧ x.1 ≤ 255) ∧ (∀ n ∈ x.2.1, 0 ≤ n ∧ n ≤ 255) ∧ ∀ n ∈ x.2.2, 0 ≤ n ∧ n ≤ 255
def mkS (w h : Nat) (x : RSt) : Stk := ⟨x.1 % h, incG w (-1) x.2.1, incG w (-1) x.2.2⟩
theorem Strike_fn (x : RSt) (w h : Nat) (hx : rsOk x) (hw : w ≤ 1000) (hh : 1 ≤ h ∧ h ≤ 1000) (h1 : x.2.1.length ≤ 1000) (h2 : x.2.2.length ≤ 1000) : Am.Fn Try.prog 31 [0, 1, 1] [RS x, I w, I h] (stU (mkS w h x)) := by
  obtain ⟨r, up, down⟩ := x
  obtain ⟨b1, b2, b3⟩ := hx
  dsimp only at b1 b2 b3 h1 h2
  have hU := inc_fn up w hw h1 b2
  have hD := inc_fn down w hw h2 b3
  have hh0 : ¬ h = 0 := by omega
  have hr : IntKind.i64.wrap ((IntKind.i64.wrap r).tmod h) = r % h := by
    have : 0 ≤ r % (h : Int) := Int.emod_nonneg _ (by omega)
    have := Int.emod_lt_of_pos r (show (0 : Int) < h by omega)
    rw [wrap_ok (n := r) (by omega) (by omega), Int.tmod_eq_emod_of_nonneg b1.1, wrap_ok (by omega) (by omega)]
  have hr2 : (IntKind.i64.wrap r).tmod h = r % h := by
    rw [wrap_ok (n := r) (by omega) (by omega), Int.tmod_eq_emod_of_nonneg b1.1]
  refine fn_introX mixed (X := X31) c31 5 (by simp [X31]) fun Q hR hN => ?_
  simp [X31, hh0]
  refine call_of hU ?_
  simp
  refine call_of hD ?_
  simp
  refine hR _ _ ?_
  simp [X31, hr2, mkS]
theorem mkS_poss {w h : Nat} {x : RSt} (hh : 1 ≤ h) : poss w h (mkS w h x) = true := by
  have h1 : 0 ≤ x.1 % (h : Int) := Int.emod_nonneg _ (by omega)
  have h2 := Int.emod_lt_of_pos x.1 (show (0 : Int) < h by omega)
  have r1 : ris w (incG w (-1) x.2.1) = true := ris_of (incG_pw _ _ _) fun y hy => by have := incG_mem _ _ _ _ hy; omega
  have r2 : ris w (incG w (-1) x.2.2) = true := ris_of (incG_pw _ _ _) fun y hy => by have := incG_mem _ _ _ _ hy; omega
  simp [poss, mkS, h1, h2, r1, r2]
def shortB (x : RSt) : Bool := decide (x.2.1.length ≤ 60) && decide (x.2.2.length ≤ 60)
def skF (w h : Nat) (l : List RSt) : List Stk := (l.filter shortB).map (mkS w h)
theorem skF_snoc {w h : Nat} {l : List RSt} {k : Nat} (hk : k < l.length) : skF w h (l.take (k + 1)) = skF w h (l.take k) ++ if shortB l[k] then [mkS w h l[k]] else [] := by
  rw [take_snoc hk]
  unfold skF
  rw [List.filter_append, List.map_append]
  cases hs : shortB l[k] <;> simp [hs]
theorem skF_len (w h : Nat) (l : List RSt) : (skF w h l).length ≤ l.length := by
  unfold skF; rw [List.length_map]; exact List.length_filter_le _ _
theorem skF_sks {w h : Nat} {l : List RSt} (hl : l.length ≤ 1000) : Sks (skF w h l) := by
  refine ⟨by have := skF_len w h l; omega, fun s hs => ?_⟩
  unfold skF at hs
  obtain ⟨x, hx, rfl⟩ := List.mem_map.1 hs
  obtain ⟨_, hx⟩ := List.mem_filter.1 hx
  simp only [shortB, Bool.and_eq_true, decide_eq_true_eq] at hx
  have a1 := incG_len w x.2.1 (-1)
  have a2 := incG_len w x.2.2 (-1)
  simp only [mkS]
  omega
theorem skF_poss {w h : Nat} {l : List RSt} (hh : 1 ≤ h) : ∀ s ∈ skF w h l, poss w h s = true := fun s hs => by
  obtain ⟨x, _, rfl⟩ := List.mem_map.1 hs
  exact mkS_poss hh
theorem strikes_fn (l : List RSt) (w h : Nat) (hl : ∀ x ∈ l, rsOk x) (hw : w ≤ 1000) (hh : 1 ≤ h ∧ h ≤ 1000) : Am.Fn Try.prog 19 [3] [.slc (l.map RS), I w, I h] (.uslc ((skF w h (l.take 6)).map stU)) := by
  refine fn_introX mixed (X := X19) c19 6 (by simp [X19]) fun Q hR hN => ?_
  simp [X19]
  refine loopX (fun (p : Nat × List Stk) vs h' => p.1 ≤ l.length ∧ p.1 ≤ 6 ∧ p.2 = skF w h (l.take p.1) ∧ p.2.length ≤ p.1 ∧ vs = [.slc (l.map RS), I w, I h, .undef, .own 5 1 p.2.length 3 0 p.2.length, I p.1, .undef, .undef] ∧
    h' = [dd, dd, dd, dd, dd, (1, .arr 3 0 false (p.2.map stU))]) (fun p => l.length - p.1) (0, []) ?_ ?_
  · simp [skF]
  · rintro ⟨i, out⟩ vs h' ⟨g1, g2, g3, g4, rfl, rfl⟩ Q' hK hX hR'
    dsimp only at g1 g2 g3 g4
    by_cases hi : i < l.length
    · by_cases hi6 : i < 6
      · have hi6' : (i : Int) < 6 := by omega
        have hw1 : IntKind.i64.wrap ((i : Int) + 1) = ((i + 1 : Nat) : Int) := wrap_ok (by omega) (by omega)
        have g5 := skF_snoc (w := w) (h := h) hi
        rw [← g3] at g5
        have c1 : (out.length + 1) * 56 ≤ 140737488355328 := by omega
        have nO := nr_stU out
        by_cases t1 : l[i].2.1.length ≤ 60
        · have t1' : (l[i].2.1.length : Int) ≤ 60 := by omega
          by_cases t2 : l[i].2.2.length ≤ 60
          · have t2' : (l[i].2.2.length : Int) ≤ 60 := by omega
            rw [if_pos (by simp [shortB, t1, t2])] at g5
            simp [hi, hi6', t1', t2', hi6]
            refine call_of (Strike_fn l[i] w h (hl _ (List.getElem_mem hi)) hw hh (by omega) (by omega)) ?_
            simp [hw1, c1, nO]
            refine hK (i + 1, out ++ [mkS w h l[i]]) _ _ (by dsimp only; omega) ?_
            simp [g5]
            omega
          · have t2' : ¬ (l[i].2.2.length : Int) ≤ 60 := by omega
            rw [if_neg (by simp [shortB, t2]), List.append_nil] at g5
            simp [hi, hi6', t1', t2', hi6, hw1, nO]
            refine hK (i + 1, out) _ _ (by dsimp only; omega) ?_
            simp [g5]
            omega
        · have t1' : ¬ (l[i].2.1.length : Int) ≤ 60 := by omega
          rw [if_neg (by simp [shortB, t1]), List.append_nil] at g5
          simp [hi, hi6', t1', hi6, hw1, nO]
          refine hK (i + 1, out) _ _ (by dsimp only; omega) ?_
          simp [g5]
          omega
      · obtain rfl : i = 6 := by omega
        have hi' : (6 : Int) < (l.length : Int) := by omega
        simp [hi, hi']
        refine hX _ _ _ ?_
        simp
        refine hR _ _ ?_
        have nO := nr_stU out
        simp [X19, g3, nO]
    · have e : l.take 6 = l.take i := by rw [List.take_of_length_le (by omega), List.take_of_length_le (by omega)]
      simp [hi]
      refine hX _ _ _ ?_
      simp
      refine hR _ _ ?_
      have nO := nr_stU out
      simp [X19, e, g3, nO]
end Go.Proofs.Ytalgbgeocpbadaa.K
