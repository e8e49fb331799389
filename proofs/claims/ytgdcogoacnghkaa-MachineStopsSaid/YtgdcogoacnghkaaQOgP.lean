/-
  Chapter 27, plain: what is made without troubles, with worn pins, after a slip, up to a stop.
-/
import Derived.Test.YtgdcogoacnghkaaQOfP
namespace Go.Proofs.Ytgdcogoacnghkaa.N
set_option linter.unusedSimpArgs false
set_option linter.unusedVariables false
set_option linter.unusedSectionVars false
open Go.Proofs.Ytgdcogoacnghkaa.Am
theorem wo_cell {off : Nat} {w : List Int} {u : List (List Bool)} {r c : Nat} (g : G48 u) (hr : r < 12) (hc : c < 48) : cell (u.map (wo off w)) r c = (cell u r c && !decide (((off + c : Nat) : Int) ∈ w)) := by
  have h1 : r < u.length := by rw [g.len]; exact hr
  have h2 := wid_get g.wid h1
  have h3 : r < (u.map (wo off w)).length := by simpa using h1
  have h4 : c < u[r].length := by omega
  unfold cell
  rw [List.getElem?_eq_getElem h3, List.getElem?_eq_getElem h1]
  simp only [Option.getD_some, List.getElem_map]
  rw [wo_get h4, List.getElem?_eq_getElem h4]
  simp
theorem G48.wo {off : Nat} {w : List Int} {u : List (List Bool)} (g : G48 u) : G48 (u.map (wo off w)) := ⟨by simpa using g.len, wo_wid g.wid⟩
/-- pins worn from the start, or worn out before the first strike -/
theorem fold_worn {u d : List (List Bool)} (m : Mad u d) {n : Nat} (hn : 1 ≤ n) (hn2 : n ≤ 64) {s : Em} (h : s.u = blankD 48 12 ∧ s.d = blankD 48 12 ∧ s.slip = 0) (w : List Int) (hw : ∀ x : Int, 0 ≤ x → x < 96 → (x ∈ s.worn ↔ x ∈ w)) :
    ((planG 48 n 0 u d).foldl strikeG s).u = u.map (wo 0 w) ∧ ((planG 48 n 0 u d).foldl strikeG s).d = d.map (wo 48 w) := by
  obtain ⟨h1, h2, h3⟩ := h
  have hs : EmOk s := ⟨by rw [h1, h2]; exact ⟨blank_len _ _, blank_len _ _, wid_blank _ _, wid_blank _ _⟩⟩
  have hk := fold_ok (planG 48 n 0 u d) hs
  have hP := (m.plan hn hn2).ok
  constructor
  · refine hk.mad.gu.ext m.gu.wo fun r c hr hc => ?_
    rw [fold_up hr hc _ hs hP, h1, cell_blank, plan_up hn (by rw [m.lu, m.ld]) m.wu, h3, wo_cell m.gu hr hc]
    have := hw c (by omega) (by omega)
    simp [this]
  · refine hk.mad.gd.ext m.gd.wo fun r c hr hc => ?_
    rw [fold_dn hr hc _ hs hP, h2, cell_blank, plan_dn hn (by rw [m.lu, m.ld]) m.wu, h3, wo_cell m.gd hr hc]
    have := hw (48 + c) (by omega) (by omega)
    simp [this]
theorem make_worn {u d : List (List Bool)} (m : Mad u d) {n : Nat} (hn : 1 ≤ n) (hn2 : n ≤ 64) (w : List Int) : makeG u d n w [] = ⟨u.map (wo 0 w), d.map (wo 48 w), (planG 48 n 0 u d).length, 0, w, false⟩ := by
  unfold makeG
  rw [run_quiet rfl fun j _ => rfl]
  obtain ⟨h1, h2⟩ := fold_worn m hn hn2 (s := startG w) ⟨rfl, rfl, rfl⟩ w fun x _ _ => Iff.rfl
  obtain ⟨h3, h4, h5, h6⟩ := fold_fields (planG 48 n 0 u d) (startG w)
  generalize (planG 48 n 0 u d).foldl strikeG (startG w) = E at *
  obtain ⟨a, b, c, e, f, g⟩ := E
  dsimp only at h1 h2 h3 h4 h5 h6
  subst h1 h2 h3 h4 h5 h6
  simp [startG]
theorem wo_nil {off : Nat} {u : List (List Bool)} : u.map (wo off []) = u := by
  conv => rhs; rw [← List.map_id u]
  refine List.map_congr_left fun r _ => ?_
  refine List.ext_getElem (by simp [wo]) fun j h1 h2 => ?_
  simp [wo]
theorem make_good {u d : List (List Bool)} (m : Mad u d) {n : Nat} (hn : 1 ≤ n) (hn2 : n ≤ 64) : makeG u d n [] [] = ⟨u, d, (planG 48 n 0 u d).length, 0, [], false⟩ := by
  rw [make_worn m hn hn2, wo_nil, wo_nil]
/-- pins that wear out one after the other -/
def wears (ws : List Int) : List Tr := ws.map fun n => ⟨3, 0, n⟩
theorem suf_wears : ∀ (ws : List Int) (a : Nat) (w : List Int), ∃ w', suf (wears ws) a w = (false, a, w') ∧ ∀ x : Int, 0 ≤ x → x < 96 → (x ∈ w' ↔ x ∈ w ∨ x ∈ ws)
  | [], a, w => ⟨w, rfl, fun x _ _ => by simp⟩
  | n :: ws, a, w => by
    obtain ⟨w', h1, h2⟩ := suf_wears ws a (wear n w)
    refine ⟨w', ?_, fun x hx hx2 => ?_⟩
    · have : suf (wears (n :: ws)) a w = suf (wears ws) a (wear n w) := by simp [wears, suf]
      rw [this, h1]
    · rw [h2 x hx hx2, List.mem_cons]
      have : x ∈ wear n w ↔ x ∈ w ∨ x = n := by
        unfold wear
        split
        · simp
        · rename_i h
          constructor
          · exact .inl
          · rintro (h3 | rfl)
            · exact h3
            · by_cases h4 : x ∈ w
              · exact h4
              · exact absurd ⟨hx, hx2, h4⟩ h
      rw [this, or_assoc]
theorem wears_at (ws : List Int) : trAt (wears ws) 0 = wears ws ∧ ∀ j, 1 ≤ j → trAt (wears ws) j = [] := by
  constructor
  · unfold trAt; rw [List.filter_eq_self]
    intro t ht
    obtain ⟨n, _, rfl⟩ := List.mem_map.1 ht
    rfl
  · intro j hj
    unfold trAt; rw [List.filter_eq_nil_iff]
    intro t ht
    obtain ⟨n, _, rfl⟩ := List.mem_map.1 ht
    simp; omega
theorem plan_nil {n : Nat} (hn : 1 ≤ n) {u d : List (List Bool)} (m : Mad u d) (h : planG 48 n 0 u d = []) (w : List Int) : blankD 48 12 = u.map (wo 0 w) ∧ blankD 48 12 = d.map (wo 48 w) := by
  constructor
  · refine G48.blank.ext m.gu.wo fun r c hr hc => ?_
    have := plan_up (n := n) (a := 0) (w := w) (r := r) (c := c) hn (us := u) (ds := d) (y := 0) (by rw [m.lu, m.ld]) m.wu
    rw [h] at this
    rw [cell_blank, wo_cell m.gu hr hc]
    simpa [byUp] using this
  · refine G48.blank.ext m.gd.wo fun r c hr hc => ?_
    have := plan_dn (n := n) (a := 0) (w := w) (r := r) (c := c) hn (us := u) (ds := d) (y := 0) (by rw [m.lu, m.ld]) m.wu
    rw [h] at this
    rw [cell_blank, wo_cell m.gd hr hc]
    simpa [byDn] using this
theorem make_wears {u d : List (List Bool)} (m : Mad u d) {n : Nat} (hn : 1 ≤ n) (hn2 : n ≤ 64) (ws : List Int) : (makeG u d n [] (wears ws)).u = u.map (wo 0 ws) ∧ (makeG u d n [] (wears ws)).d = d.map (wo 48 ws) := by
  have h0 := plan_nil hn m (w := ws)
  have hF := fun s hs hw => fold_worn m hn hn2 (s := s) hs ws hw
  unfold makeG
  generalize planG 48 n 0 u d = P at h0 hF
  cases P with
  | nil => exact h0 rfl
  | cons k P =>
    obtain ⟨w', h1, h2⟩ := suf_wears ws 0 []
    obtain ⟨w1, w2⟩ := wears_at ws
    have e : sufG (startG []) (trAt (wears ws) 0) = ⟨blankD 48 12, blankD 48 12, 0, 0, w', false⟩ := by
      rw [w1]; simp only [sufG, startG, h1]
    unfold runG
    rw [e]
    simp only [Bool.false_eq_true, if_false]
    rw [run_quiet (by rfl) fun j hj => w2 j (by omega)]
    exact hF _ ⟨rfl, rfl, rfl⟩ fun x h3 h4 => by rw [h2 x h3 h4]; simp
/-- after a slip before the first strike -/
def slid (d : List (List Bool)) : List (List Bool) := List.replicate 48 false :: d.take 11
theorem G48.slid {d : List (List Bool)} (g : G48 d) : G48 (slid d) := ⟨by simp [N.slid, g.len], fun r hr => by
  rcases List.mem_cons.1 hr with rfl | hr
  · simp
  · exact g.wid r (List.mem_of_mem_take hr)⟩
theorem slid_cell {d : List (List Bool)} {r c : Nat} (hr : r < 12) : cell (slid d) r c = (decide (1 ≤ r) && cell d (r - 1) c) := by
  unfold cell slid
  cases r with
  | zero =>
    rw [List.getElem?_cons_zero, Option.getD_some, List.getElem?_replicate, show decide (1 ≤ 0) = false from rfl, Bool.false_and]
    split <;> rfl
  | succ r =>
    rw [List.getElem?_cons_succ, List.getElem?_take, if_pos (by omega)]
    simp
theorem make_slip {u d : List (List Bool)} (m : Mad u d) {n : Nat} (hn : 1 ≤ n) (hn2 : n ≤ 64) : (makeG u d n [] [⟨2, 0, 0⟩]).u = slid u ∧ (makeG u d n [] [⟨2, 0, 0⟩]).d = slid d ∧ (makeG u d n [] [⟨2, 0, 0⟩]).stopped = false := by
  have hP := (m.plan hn hn2).ok
  have hU := fun r c => plan_up (n := n) (a := 1) (w := []) (r := r) (c := c) hn (us := u) (ds := d) (y := 0) (by rw [m.lu, m.ld]) m.wu
  have hD := fun r c => plan_dn (n := n) (a := 1) (w := []) (r := r) (c := c) hn (us := u) (ds := d) (y := 0) (by rw [m.lu, m.ld]) m.wu
  have e : makeG u d n [] [⟨2, 0, 0⟩] = if planG 48 n 0 u d = [] then startG [] else (planG 48 n 0 u d).foldl strikeG ⟨blankD 48 12, blankD 48 12, 0, 1, [], false⟩ := by
    unfold makeG
    cases planG 48 n 0 u d with
    | nil => rfl
    | cons k P =>
      have e : sufG (startG []) (trAt [⟨2, 0, 0⟩] 0) = ⟨blankD 48 12, blankD 48 12, 0, 1, [], false⟩ := by simp [trAt, sufG, startG, suf]
      unfold runG
      rw [e]
      simp only [Bool.false_eq_true, if_false]
      rw [run_quiet (by rfl) fun j hj => ?_]
      · simp
      · have : ¬ (0 : Int) = (j : Int) := by omega
        simp [trAt, this]
  have hs : EmOk ⟨blankD 48 12, blankD 48 12, 0, 1, [], false⟩ := ⟨⟨blank_len _ _, blank_len _ _, wid_blank _ _, wid_blank _ _⟩⟩
  rw [e]
  split
  · rename_i h0
    rw [h0] at hU hD
    refine ⟨G48.blank.ext m.gu.slid fun r c hr hc => ?_, G48.blank.ext m.gd.slid fun r c hr hc => ?_, rfl⟩
    · rw [cell_blank, slid_cell hr]; have := hU r c; simpa [byUp] using this
    · rw [cell_blank, slid_cell hr]; have := hD r c; simpa [byDn] using this
  · have hk := fold_ok (planG 48 n 0 u d) hs
    refine ⟨hk.mad.gu.ext m.gu.slid fun r c hr hc => ?_, hk.mad.gd.ext m.gd.slid fun r c hr hc => ?_, (fold_fields _ _).2.2.1⟩
    · rw [fold_up hr hc _ hs hP, cell_blank, slid_cell hr]
      dsimp only
      rw [hU r c]; simp
    · rw [fold_dn hr hc _ hs hP, cell_blank, slid_cell hr]
      dsimp only
      rw [hD r c]; simp
/-- a stop before strike i -/
theorem make_stop {u d : List (List Bool)} {n : Nat} {i : Nat} {k : Int} (hk : k = 1 ∨ k = 4) (hi : i < (planG 48 n 0 u d).length) : makeG u d n [] [⟨k, i, 0⟩, ⟨2, i, 0⟩] = { ((planG 48 n 0 u d).take i).foldl strikeG (startG []) with stopped := true } := by
  unfold makeG
  generalize planG 48 n 0 u d = P at hi
  have e : P = P.take i ++ P.drop i := (List.take_append_drop i P).symm
  have q : ∀ j, j ≠ i → trAt [⟨k, i, 0⟩, ⟨2, i, 0⟩] j = [] := fun j hj => by
    have : ¬ (i : Int) = (j : Int) := by omega
    simp [trAt, this]
  have q2 : trAt [⟨k, i, 0⟩, ⟨2, i, 0⟩] i = [⟨k, i, 0⟩, ⟨2, i, 0⟩] := by simp [trAt]
  have lt : (P.take i).length = i := by rw [List.length_take]; omega
  conv => lhs; rw [e]
  rw [run_app (P.take i) rfl fun j h1 h2 => q j (by omega), lt, Nat.zero_add]
  obtain ⟨h3, h4, h5, h6⟩ := fold_fields (P.take i) (startG [])
  generalize (P.take i).foldl strikeG (startG []) = E at *
  rw [List.drop_eq_getElem_cons hi, runG, q2]
  have e2 : sufG E [⟨k, i, 0⟩, ⟨2, i, 0⟩] = { E with stopped := true } := by
    simp only [sufG, suf]
    rw [if_pos hk]
  rw [e2]
  simp
end Go.Proofs.Ytgdcogoacnghkaa.N
