/-
  Chapter 27: the reference's strikes.
-/
import Derived.Test.YtgdcogoacnghkaaQNsA
namespace Go.Proofs.Ytgdcogoacnghkaa.N
set_option linter.unusedSimpArgs false
set_option linter.unusedVariables false
set_option linter.unusedSectionVars false
open Go.Proofs.Ytgdcogoacnghkaa.Am
set_option maxHeartbeats 4000000
abbrev PT2 (p : Int × Int) : PV := .agg [I p.1, I p.2]
abbrev PTS (l : List (Int × Int)) : PV := .slc (l.map PT2)
abbrev UPT (l : List (Int × Int)) : PV := .uslc (l.map PT2)
/-- those of a row that pins which are not worn raise -/
def alive (pin : Int) (worn cols : List Int) : List Int := cols.filter fun c => !worn.contains (pin + c)
def dotsG (cols : List Int) (pin row : Int) (worn : List Int) : List (Int × Int) := (alive pin worn cols).map fun c => (c, row)
theorem dotsG_snoc {cols worn : List Int} {pin row : Int} {k : Nat} (h : k < cols.length) : dotsG (cols.take (k + 1)) pin row worn = dotsG (cols.take k) pin row worn ++ if worn.contains (pin + cols[k]) then [] else [(cols[k], row)] := by
  unfold dotsG alive
  rw [take_snoc h, List.filter_append, List.map_append]
  congr 1
  by_cases hc : worn.contains (pin + cols[k]) = true
  · simp at hc; simp [hc]
  · simp at hc; simp [hc]
theorem dotsG_len {cols worn : List Int} {pin row : Int} : (dotsG cols pin row worn).length ≤ cols.length := by
  unfold dotsG alive; rw [List.length_map]; exact List.length_filter_le _ _
theorem dots_fn (cols worn : List Int) (pin row : Int) (hc : cols.length ≤ 100000) (hw : worn.length ≤ 100000) (hp : 0 ≤ pin ∧ pin ≤ 1000) (hb : ∀ c ∈ cols, 0 ≤ c ∧ c ≤ 1000) : Am.Fn Try.prog 54 [2] [IL cols, I pin, I row, IL worn] (UPT (dotsG cols pin row worn)) := by
  refine fn_introX mixed (X := X54) c54 4 (by simp [X54]) fun Q hR hN => ?_
  simp [X54]
  refine loopX (fun (p : Nat × List (Int × Int)) vs h => p.1 ≤ cols.length ∧ p.2 = dotsG (cols.take p.1) pin row worn ∧ vs = [IL cols, I pin, I row, IL worn, .undef, .own 3 1 p.2.length 2 0 p.2.length, I p.1, .undef, .undef] ∧ h = [dd, dd, dd, (1, .arr 2 0 false (p.2.map PT2))]) (fun p => cols.length - p.1) (0, []) ?_ ?_
  · simp [dotsG, alive]
  · rintro ⟨k, l⟩ vs h ⟨h1, h2, rfl, rfl⟩ Q' hK hX hR'
    dsimp only at h1 h2
    by_cases hk : k < cols.length
    · have hw1 : IntKind.i64.wrap ((k : Int) + 1) = ((k + 1 : Nat) : Int) := wrap_ok (by omega) (by omega)
      have hbk := hb _ (List.getElem_mem hk)
      have hw2 : IntKind.i64.wrap (pin + cols[k]) = pin + cols[k] := wrap_ok (by omega) (by omega)
      have hlen : l.length ≤ k := by rw [h2]; have := dotsG_len (cols := cols.take k) (worn := worn) (pin := pin) (row := row); rw [List.length_take] at this; omega
      have hcap : (l.length + 1) * 16 ≤ 140737488355328 := by omega
      have hs := dotsG_snoc (worn := worn) (pin := pin) (row := row) hk
      simp [hk, hw2]
      refine call_of (Has_fn worn (pin + cols[k]) hw) ?_
      by_cases hc : worn.contains (pin + cols[k]) = true
      · have hc' : (pin + cols[k]) ∈ worn := by simpa using hc
        simp [hc', hw1]
        refine hK (k + 1, l) _ _ (by dsimp only; omega) ?_
        simp
        exact ⟨by omega, by rw [hs, ← h2, if_pos hc]; simp⟩
      · have hc' : ¬ (pin + cols[k]) ∈ worn := by simpa using hc
        simp [hc', hk, hcap, hw1]
        refine hK (k + 1, l ++ [(cols[k], row)]) _ _ (by dsimp only; omega) ?_
        simp
        exact ⟨by omega, by rw [hs, ← h2, if_neg hc]⟩
    · rw [List.take_of_length_le (by omega)] at h2
      simp [hk]
      refine hX _ _ _ ?_
      simp
      refine hR _ _ ?_
      simp [X54, h2]
      rintro _ _ _ _ rfl; rfl
/-- a point plotted -/
def plot1 (w h : Nat) (d : List (List Bool)) (p : Int × Int) : List (List Bool) := if 0 ≤ p.1 ∧ p.1 < w ∧ 0 ≤ p.2 ∧ p.2 < h then d.modify p.2.toNat (fun r => r.set p.1.toNat true) else d
def plotD (w h : Nat) (d : List (List Bool)) (l : List (Int × Int)) : List (List Bool) := l.foldl (plot1 w h) d
theorem plot1_len {w h : Nat} {d : List (List Bool)} {p : Int × Int} : (plot1 w h d p).length = d.length := by unfold plot1; split <;> simp
theorem plot1_wid {w h : Nat} {d : List (List Bool)} {p : Int × Int} (hd : Wid w d) : Wid w (plot1 w h d p) := by
  unfold plot1; split
  · intro r hr
    obtain ⟨i, hi, rfl⟩ := List.mem_iff_getElem.1 hr
    have hi' : i < d.length := by simpa using hi
    rw [List.getElem_modify]
    split
    · rw [List.length_set]; exact wid_get hd hi'
    · exact wid_get hd hi'
  · exact hd
theorem plotD_len {w h : Nat} {d : List (List Bool)} {l : List (Int × Int)} : (plotD w h d l).length = d.length := by
  unfold plotD
  induction l generalizing d with
  | nil => rfl
  | cons p l ih => rw [List.foldl_cons, ih, plot1_len]
theorem plotD_wid {w h : Nat} {d : List (List Bool)} {l : List (Int × Int)} (hd : Wid w d) : Wid w (plotD w h d l) := by
  unfold plotD
  induction l generalizing d with
  | nil => exact hd
  | cons p l ih => rw [List.foldl_cons]; exact ih (plot1_wid hd)
theorem plotD_snoc {w h : Nat} {d : List (List Bool)} {l : List (Int × Int)} {k : Nat} (hk : k < l.length) : plotD w h d (l.take (k + 1)) = plot1 w h (plotD w h d (l.take k)) l[k] := by
  unfold plotD; rw [take_snoc hk, List.foldl_append]; rfl
theorem plot1_set {w h x y : Nat} {d : List (List Bool)} {p : Int × Int} (hx : x < w) (hy : y < h) (hd : y < d.length) (h1 : p.1 = x) (h2 : p.2 = y) : d.set y (d[y].set x true) = plot1 w h d p := by
  unfold plot1
  rw [if_pos (by omega), h1, h2]
  refine List.ext_getElem (by simp) fun j h1 h2 => ?_
  rw [List.getElem_set, List.getElem_modify]
  simp only [Int.toNat_natCast]
  split
  · rename_i e; subst e; simp
  · rename_i e; simp [e]
theorem Plot_fn (w h : Nat) (d : List (List Bool)) (l : List (Int × Int)) (hw : w ≤ 200) (hh : h ≤ 200) (hd : d.length = h) (wd : Wid w d) (hl : l.length ≤ 100000) : Am.Fn Try.prog 30 [0, 0, 1] [GR w h d, PTS l] (.agg [I w, I h, UR (plotD w h d l)]) := by
  have hB := New_fn w h hw hh
  have c0 := Cpy.start d w
  rw [hd] at c0
  have l0 := blank_len w h
  unfold blankD at c0 l0
  generalize List.replicate h (List.replicate w false) = U0 at hB c0 l0
  refine fn_introX mixed (X := X30) c30 8 (by simp [X30]) fun Q hR hN => ?_
  simp [X30]
  refine call_of hB ?_
  simp [l0]
  refine loopX (fun (p : Nat × List (List Bool)) vs h' => p.1 ≤ h ∧ Cpy d w p.1 0 p.2 ∧ vs = [.undef, PTS l, .ptr 4 1 0, .ptr 5 1 0, .ptr 6 1 0, I p.1, .undef, .undef, .undef, .undef, .undef, .undef] ∧
    h' = [dd, dd, dd, dd, (1, .var [I w, I h, DT d]), (1, .var [I 0, I 0, .nils]), (1, .var [I w, I h, .own 7 1 h 1 0 h]), (1, .arr 1 0 false (p.2.map UW))]) (fun p => h - p.1) (0, U0) ?_ ?_
  · simp [c0]
  · rintro ⟨k, U⟩ vs h' ⟨h1, h2, rfl, rfl⟩ Q' hK hX hR'
    dsimp only at h1 h2
    by_cases hk : k < h
    · simp [hk]
      refine loopX (fun (p : Nat × List (List Bool)) vs h' => p.1 ≤ w ∧ Cpy d w k p.1 p.2 ∧ vs = [.undef, PTS l, .ptr 4 1 0, .ptr 5 1 0, .ptr 6 1 0, I k, I p.1, .undef, .undef, .undef, .undef, .undef] ∧
        h' = [dd, dd, dd, dd, (1, .var [I w, I h, DT d]), (1, .var [I 0, I 0, .nils]), (1, .var [I w, I h, .own 7 1 h 1 0 h]), (1, .arr 1 0 false (p.2.map UW))]) (fun p => w - p.1) (0, U) ?_ ?_
      · simp [h2]
      · rintro ⟨j, U2⟩ vs h' ⟨g1, g2, rfl, rfl⟩ Q2 hK2 hX2 hR2
        dsimp only at g1 g2
        have lU : U2.length = h := by rw [g2.len, hd]
        have hkU : k < U2.length := by omega
        have hkd : k < d.length := by omega
        have wU := wid_get g2.wid hkU
        have wdk := wid_get wd hkd
        by_cases hj : j < w
        · have hw2 : IntKind.i64.wrap ((j : Int) + 1) = ((j + 1 : Nat) : Int) := wrap_ok (by omega) (by omega)
          have hjd : j < d[k].length := by omega
          simp [hk, hj, lU, hkU, wU, hkd, hjd, hw2]
          rw [uw_set]
          have s1 := g2.step wd hkd hj (hkU := hkU) (List.getElem?_eq_getElem hjd)
          generalize U2.set k (U2[k].set j d[k][j]) = U3 at s1
          have l3 : U3.length = h := by rw [s1.len, hd]
          refine hK2 (j + 1, U3) _ _ (by dsimp only; omega) ?_
          simp [s1]
          omega
        · obtain rfl : j = w := by omega
          have hw1 : IntKind.i64.wrap ((k : Int) + 1) = ((k + 1 : Nat) : Int) := wrap_ok (by omega) (by omega)
          simp
          refine hX2 _ _ _ ?_
          simp [hw1]
          refine hK (k + 1, U2) _ _ (by dsimp only; omega) ?_
          simp
          exact ⟨by omega, g2.row wd hkd⟩
    · obtain rfl : k = h := by omega
      have e1 := h2.done' hd
      subst e1
      simp
      refine hX _ _ _ ?_
      simp
      clear hK hX hR'
      refine loopX (fun (p : Nat × List (List Bool)) vs h' => p.1 ≤ l.length ∧ p.2 = plotD w k U (l.take p.1) ∧ vs = [.undef, PTS l, .ptr 4 1 0, .ptr 5 1 0, .ptr 6 1 0, .undef, .undef, I p.1, .undef, .undef, .undef, .undef] ∧
        h' = [dd, dd, dd, dd, (1, .var [I w, I k, DT U]), (1, .var [I 0, I 0, .nils]), (1, .var [I w, I k, .own 7 1 k 1 0 k]), (1, .arr 1 0 false (p.2.map UW))]) (fun p => l.length - p.1) (0, U) ?_ ?_
      · simp [plotD]
      · rintro ⟨i, V⟩ vs h' ⟨g1, g2, rfl, rfl⟩ Q' hK hX hR'
        dsimp only at g1 g2
        have lV : V.length = k := by rw [g2, plotD_len, hd]
        have wV : Wid w V := by rw [g2]; exact plotD_wid wd
        by_cases hi : i < l.length
        · have hw1 : IntKind.i64.wrap ((i : Int) + 1) = ((i + 1 : Nat) : Int) := wrap_ok (by omega) (by omega)
          have hs := plotD_snoc (w := w) (h := k) (d := U) hi
          rw [← g2] at hs
          simp [hi]
          refine call_of (On_fn w k l[i].1 l[i].2 U) ?_
          by_cases hc : 0 ≤ l[i].1 ∧ l[i].1 < (w : Int) ∧ 0 ≤ l[i].2 ∧ l[i].2 < (k : Int)
          · obtain ⟨q1, q2, q3, q4⟩ := hc
            obtain ⟨x, hx⟩ : ∃ x : Nat, l[i].1 = x := ⟨l[i].1.toNat, by omega⟩
            obtain ⟨y, hy⟩ : ∃ y : Nat, l[i].2 = y := ⟨l[i].2.toNat, by omega⟩
            have hxw : x < w := by omega
            have hyk : y < k := by omega
            have hyV : y < V.length := by omega
            have wVk := wid_get wV hyV
            have e := plot1_set hxw hyk hyV hx hy
            rw [← hs] at e
            simp [hi, hx, hy, hxw, hyk, lV, hyV, wVk, hw1]
            rw [uw_set, e]
            refine hK (i + 1, plotD w k U (l.take (i + 1))) _ _ (by dsimp only; omega) ?_
            simp [plotD_len, hd]
            omega
          · have e : plotD w k U (l.take (i + 1)) = V := by rw [hs]; unfold plot1; rw [if_neg hc]
            simp [hc, hw1]
            refine hK (i + 1, V) _ _ (by dsimp only; omega) ?_
            simp
            exact ⟨by omega, e.symm⟩
        · rw [List.take_of_length_le (by omega)] at g2
          simp [hi]
          refine hX _ _ _ ?_
          simp
          refine hR _ _ ?_
          simp [X30, g2, plotD_len, hd]
end Go.Proofs.Ytgdcogoacnghkaa.N
