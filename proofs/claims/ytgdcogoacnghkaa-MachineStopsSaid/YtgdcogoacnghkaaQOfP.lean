/-
  Chapter 27, plain: dots of plates, strikes, plans.
-/
import Derived.Test.YtgdcogoacnghkaaQOcP
import Derived.Test.YtgdcogoacnghkaaQNnA
import Derived.Test.YtgdcogoacnghkaaQObA
namespace Go.Proofs.Ytgdcogoacnghkaa.N
set_option linter.unusedSimpArgs false
set_option linter.unusedVariables false
set_option linter.unusedSectionVars false
open Go.Proofs.Ytgdcogoacnghkaa.Am
theorem posG_pw (off : Nat) : ∀ (r : List Bool) (x : Nat), (posG off x r).Pairwise (· < ·)
  | [], x => List.Pairwise.nil
  | b :: r, x => by
    unfold posG; split
    · refine List.pairwise_cons.2 ⟨fun z hz => ?_, posG_pw off r (x + 1)⟩
      obtain ⟨k, h1, _⟩ := posG_mem _ _ _ _ hz
      omega
    · exact posG_pw off r (x + 1)
theorem chunkG_flat {α : Type} {n : Nat} (hn : 1 ≤ n) : ∀ (f : Nat) (l : List α), l.length ≤ f → (chunkG n f l).flatten = l
  | 0, l, h => by rw [List.eq_nil_of_length_eq_zero (by omega : l.length = 0)]; rfl
  | f + 1, l, h => by
    simp only [chunkG]
    split
    · rename_i e; subst e; rfl
    · rename_i hl
      have hl' : 0 < l.length := List.length_pos_iff.2 hl
      rw [List.flatten_cons, chunkG_flat hn f _ (by rw [List.length_drop]; omega), List.take_append_drop]
theorem chunk_flat {α : Type} {n : Nat} (hn : 1 ≤ n) (l : List α) : (chunk n l).flatten = l := chunkG_flat hn _ _ (Nat.le_refl _)
theorem filter_posG_lt {w : Nat} {u d : List Bool} (hu : u.length = w) : (cols w u d).filter (· < (w : Int)) = posG 0 0 u := by
  rw [cols, List.filter_append, List.filter_eq_self.2, List.filter_eq_nil_iff.2, List.append_nil]
  · intro x hx
    obtain ⟨k, h1, h2⟩ := posG_mem _ _ _ _ hx
    simp; omega
  · intro x hx
    obtain ⟨k, h1, h2⟩ := posG_mem _ _ _ _ hx
    have := (List.getElem?_eq_some_iff.1 h2).1
    simp; omega
theorem posG_off (off : Nat) : ∀ (r : List Bool) (x : Nat), (posG off x r).map (· - (off : Int)) = posG 0 x r
  | [], x => rfl
  | b :: r, x => by
    unfold posG; split
    · rw [List.map_cons, posG_off off r (x + 1)]; congr 1; omega
    · exact posG_off off r (x + 1)
theorem filter_posG_ge {w : Nat} {u d : List Bool} (hu : u.length = w) : ((cols w u d).filter (fun n => decide ((w : Int) ≤ n))).map (· - (w : Int)) = posG 0 0 d := by
  rw [cols, List.filter_append, List.filter_eq_nil_iff.2, List.nil_append, List.filter_eq_self.2, posG_off]
  · intro x hx
    obtain ⟨k, h1, h2⟩ := posG_mem _ _ _ _ hx
    simp; omega
  · intro x hx
    obtain ⟨k, h1, h2⟩ := posG_mem _ _ _ _ hx
    have := (List.getElem?_eq_some_iff.1 h2).1
    simp; omega
theorem flat_up (y : Int) (w : Nat) : ∀ cs : List (List Int), (cs.map (struck y w)).flatMap (·.up) = cs.flatten.filter (· < (w : Int))
  | [] => rfl
  | c :: cs => by rw [List.map_cons, List.flatMap_cons, flat_up y w cs, List.flatten_cons, List.filter_append]; rfl
theorem flat_down (y : Int) (w : Nat) : ∀ cs : List (List Int), (cs.map (struck y w)).flatMap (·.down) = (cs.flatten.filter (fun n => decide ((w : Int) ≤ n))).map (· - (w : Int))
  | [] => rfl
  | c :: cs => by rw [List.map_cons, List.flatMap_cons, flat_down y w cs, List.flatten_cons, List.filter_append, List.map_append]; rfl
theorem planRow_up {w n y : Nat} {u d : List Bool} (hn : 1 ≤ n) (hu : u.length = w) : (planRow w n y u d).flatMap (·.up) = posG 0 0 u := by
  rw [planRow, flat_up, chunk_flat hn, filter_posG_lt hu]
theorem planRow_down {w n y : Nat} {u d : List Bool} (hn : 1 ≤ n) (hu : u.length = w) : (planRow w n y u d).flatMap (·.down) = posG 0 0 d := by
  rw [planRow, flat_down, chunk_flat hn, filter_posG_ge hu]
/-- how many dots a strike has -/
def size (s : Stk) : Nat := s.up.length + s.down.length
theorem size_struck (y : Int) (w : Nat) : ∀ c : List Int, size (struck y w c) = c.length
  | [] => rfl
  | x :: c => by
    have ih := size_struck y w c
    simp only [size, struck, List.length_map] at ih ⊢
    by_cases h : x < (w : Int)
    · have h' : ¬ (w : Int) ≤ x := by omega
      rw [List.filter_cons_of_pos (by simpa using h), List.filter_cons_of_neg (by simpa using h')]
      simp only [List.length_cons]; omega
    · have h' : (w : Int) ≤ x := by omega
      rw [List.filter_cons_of_neg (by simpa using h), List.filter_cons_of_pos (by simpa using h')]
      simp only [List.length_cons]; omega
theorem posG_cnt (off : Nat) : ∀ (r : List Bool) (x : Nat), (posG off x r).length = cnt r
  | [], x => rfl
  | b :: r, x => by
    have ih := posG_cnt off r (x + 1)
    cases b
    · simpa [posG, cnt] using ih
    · simpa [posG, cnt] using ih
theorem cols_cnt (w : Nat) (u d : List Bool) : (cols w u d).length = cnt u + cnt d := by
  rw [cols, List.length_append, posG_cnt, posG_cnt]
theorem chunkG_pos {α : Type} {n : Nat} (hn : 1 ≤ n) : ∀ (f : Nat) (l : List α) (c : List α), c ∈ chunkG n f l → 1 ≤ c.length ∧ c.length ≤ n
  | 0, l, c, h => by simp [chunkG] at h
  | f + 1, l, c, h => by
    simp only [chunkG] at h
    split at h
    · simp at h
    · rename_i hl
      have hl' : 0 < l.length := List.length_pos_iff.2 hl
      rcases List.mem_cons.1 h with rfl | h
      · rw [List.length_take]; omega
      · exact chunkG_pos hn f _ c h
theorem chunkG_sum {α : Type} {n : Nat} (hn : 1 ≤ n) (l : List α) : ((chunk n l).map List.length).sum = l.length := by
  rw [← List.length_flatten, chunk_flat hn]
theorem planG_sum {w n : Nat} (hn : 1 ≤ n) : ∀ (us ds : List (List Bool)) (y : Nat), us.length = ds.length → ((planG w n y us ds).map size).sum = cntD us + cntD ds
  | u :: us, d :: ds, y, h => by
    rw [planG, List.map_append, List.sum_append, planG_sum hn us ds (y + 1) (by simpa using h), planRow, List.map_map, show (size ∘ struck y w) = List.length from funext fun c => size_struck y w c, chunkG_sum hn, cols_cnt]
    simp only [cntD, List.map_cons, List.sum_cons]; omega
  | [], [], _, _ => by simp [planG, cntD]
  | [], _ :: _, _, h => by simp at h
  | _ :: _, [], _, h => by simp at h
theorem planG_row {w n : Nat} : ∀ (us ds : List (List Bool)) (y : Nat), ∀ s ∈ planG w n y us ds, (y : Int) ≤ s.row
  | u :: us, d :: ds, y, s, h => by
    rcases List.mem_append.1 h with h | h
    · obtain ⟨c, _, rfl⟩ := List.mem_map.1 h
      simp [struck]
    · have := planG_row us ds (y + 1) s h; omega
  | [], _, _, s, h => by simp [planG] at h
  | _ :: _, [], _, s, h => by simp [planG] at h
/-! the dots of a plate, one by one -/
def cell (d : List (List Bool)) (y x : Nat) : Bool := ((d[y]?.getD [])[x]?).getD false
theorem cell_get {d : List (List Bool)} {y x : Nat} (hy : y < d.length) (hx : x < d[y].length) : cell d y x = d[y][x] := by simp [cell, hy, hx]
structure G48 (d : List (List Bool)) : Prop where
  len : d.length = 12
  wid : Wid 48 d
theorem Mad.gu {u d : List (List Bool)} (m : Mad u d) : G48 u := ⟨m.lu, m.wu⟩
theorem Mad.gd {u d : List (List Bool)} (m : Mad u d) : G48 d := ⟨m.ld, m.wd⟩
theorem G48.ext {a b : List (List Bool)} (ha : G48 a) (hb : G48 b) (h : ∀ y x, y < 12 → x < 48 → cell a y x = cell b y x) : a = b := by
  refine List.ext_getElem (by rw [ha.len, hb.len]) fun y h1 h2 => ?_
  have l1 := wid_get ha.wid h1
  have l2 := wid_get hb.wid h2
  refine List.ext_getElem (by rw [l1, l2]) fun x h3 h4 => ?_
  have := h y x (by rw [← ha.len]; exact h1) (by omega)
  rwa [cell_get h1 h3, cell_get h2 h4] at this
theorem G48.blank : G48 (blankD 48 12) := ⟨blank_len _ _, wid_blank _ _⟩
theorem cell_blank (y x : Nat) : cell (blankD 48 12) y x = false := by
  unfold cell blankD
  rw [List.getElem?_replicate]
  split
  · rw [Option.getD_some, List.getElem?_replicate]; split <;> rfl
  · rfl
theorem raise_get : ∀ (l : List Int) (r : List Bool) (x : Nat), (∀ z ∈ l, 0 ≤ z) → x < r.length → ((raiseR r l)[x]?).getD false = ((r[x]?).getD false || decide ((x : Int) ∈ l))
  | [], r, x, _, hx => by simp [raiseR]
  | z :: l, r, x, hl, hx => by
    have ih := raise_get l (r.set z.toNat true) x (fun w hw => hl w (List.mem_cons_of_mem _ hw)) (by simpa using hx)
    have hz := hl z List.mem_cons_self
    rw [show raiseR r (z :: l) = raiseR (r.set z.toNat true) l from rfl, ih]
    by_cases e : (x : Int) = z
    · have : z.toNat = x := by omega
      rw [this, List.getElem?_set_self hx]
      simp [e]
    · have : ¬ z.toNat = x := by omega
      rw [List.getElem?_set_ne this]
      simp [e]
theorem hit_cell {d : List (List Bool)} {y : Int} {l : List Int} {r c : Nat} (g : G48 d) (hl : ∀ z ∈ l, 0 ≤ z) (hr : r < 12) (hc : c < 48) : cell (hitR d y l) r c = (cell d r c || (decide (y = (r : Int)) && decide ((c : Int) ∈ l))) := by
  have h1 : r < d.length := by rw [g.len]; exact hr
  have h2 := wid_get g.wid h1
  unfold hitR
  by_cases hy : 0 ≤ y ∧ y < 12
  · rw [if_pos hy]
    unfold cell modR
    rw [List.getElem?_modify, List.getElem?_eq_getElem h1]
    simp only [Option.map_eq_map, Option.map_some, Option.getD_some]
    by_cases e : y.toNat = r
    · have e' : y = (r : Int) := by omega
      rw [if_pos e, raise_get l d[r] c hl (by omega)]
      simp [e']
    · have e' : ¬ y = (r : Int) := by omega
      rw [if_neg e]
      simp [e']
  · have e' : ¬ y = (r : Int) := by omega
    rw [if_neg hy]
    simp [e']
theorem posG_iff (off : Nat) : ∀ (r : List Bool) (x k : Nat), ((off + x + k : Nat) : Int) ∈ posG off x r ↔ r[k]? = some true
  | [], x, k => by simp [posG]
  | b :: r, x, k => by
    have hlow : ∀ z ∈ posG off (x + 1) r, ((off + x : Nat) : Int) < z := fun z hz => by
      obtain ⟨j, h1, _⟩ := posG_mem _ _ _ _ hz; omega
    cases k with
    | zero =>
      rw [List.getElem?_cons_zero]
      unfold posG
      split
      · rename_i hb; subst hb; simp
      · rename_i hb
        have hb : b = false := by simpa using hb
        subst hb
        constructor
        · intro h; have := hlow _ h; omega
        · intro h; simp at h
    | succ k =>
      have ih := posG_iff off r (x + 1) k
      rw [show off + (x + 1) + k = off + x + (k + 1) by omega] at ih
      rw [List.getElem?_cons_succ]
      unfold posG
      split
      · rw [List.mem_cons, ih]
        constructor
        · rintro (h | h)
          · omega
          · exact h
        · exact .inr
      · exact ih
/-- strikes that raise a dot -/
def byUp (P : List Stk) (a : Nat) (w : List Int) (r c : Nat) : Bool := P.any fun k => decide (k.row + (a : Int) = (r : Int)) && (decide ((c : Int) ∈ k.up) && !decide ((c : Int) ∈ w))
def byDn (P : List Stk) (a : Nat) (w : List Int) (r c : Nat) : Bool := P.any fun k => decide (k.row + (a : Int) = (r : Int)) && (decide ((c : Int) ∈ k.down) && !decide (48 + (c : Int) ∈ w))
theorem alive_in {pin : Int} {w l : List Int} {c : Int} : decide (c ∈ alive pin w l) = (decide (c ∈ l) && !decide (pin + c ∈ w)) := by
  unfold alive
  by_cases h1 : c ∈ l <;> by_cases h2 : pin + c ∈ w <;> simp [h1, h2]
theorem fold_fields : ∀ (P : List Stk) (s : Em), (P.foldl strikeG s).slip = s.slip ∧ (P.foldl strikeG s).worn = s.worn ∧ (P.foldl strikeG s).stopped = s.stopped ∧ (P.foldl strikeG s).strikes = s.strikes + P.length
  | [], s => ⟨rfl, rfl, rfl, rfl⟩
  | k :: P, s => by
    obtain ⟨h1, h2, h3, h4⟩ := fold_fields P (strikeG s k)
    rw [List.foldl_cons, h1, h2, h3, h4]
    exact ⟨rfl, rfl, rfl, by simp [strikeG]; omega⟩
theorem fold_ok : ∀ (P : List Stk) {s : Em}, EmOk s → EmOk (P.foldl strikeG s)
  | [], _, h => h
  | k :: P, _, h => fold_ok P (strikeG_ok h)
theorem fold_up {r c : Nat} (hr : r < 12) (hc : c < 48) : ∀ (P : List Stk) {s : Em}, EmOk s → (∀ k ∈ P, Stk48 k) → cell (P.foldl strikeG s).u r c = (cell s.u r c || byUp P s.slip s.worn r c)
  | [], s, h, _ => by simp [byUp]
  | k :: P, s, h, hP => by
    rw [List.foldl_cons, fold_up hr hc P (strikeG_ok h) fun z hz => hP z (List.mem_cons_of_mem _ hz)]
    have hk := hP k List.mem_cons_self
    rw [show (strikeG s k).u = hitR s.u (k.row + s.slip) (alive 0 s.worn k.up) from rfl, hit_cell h.mad.gu (fun z hz => (hk.bu z (alive_mem hz)).1) hr hc, alive_in, Int.zero_add]
    rw [show (strikeG s k).slip = s.slip from rfl, show (strikeG s k).worn = s.worn from rfl]
    simp only [byUp, List.any_cons, Bool.or_assoc]
theorem fold_dn {r c : Nat} (hr : r < 12) (hc : c < 48) : ∀ (P : List Stk) {s : Em}, EmOk s → (∀ k ∈ P, Stk48 k) → cell (P.foldl strikeG s).d r c = (cell s.d r c || byDn P s.slip s.worn r c)
  | [], s, h, _ => by simp [byDn]
  | k :: P, s, h, hP => by
    rw [List.foldl_cons, fold_dn hr hc P (strikeG_ok h) fun z hz => hP z (List.mem_cons_of_mem _ hz)]
    have hk := hP k List.mem_cons_self
    rw [show (strikeG s k).d = hitR s.d (k.row + s.slip) (alive 48 s.worn k.down) from rfl, hit_cell h.mad.gd (fun z hz => (hk.bd z (alive_mem hz)).1) hr hc, alive_in]
    rw [show (strikeG s k).slip = s.slip from rfl, show (strikeG s k).worn = s.worn from rfl]
    simp only [byDn, List.any_cons, Bool.or_assoc]
/-! what the strikes of a plan raise -/
theorem row_up {n y : Nat} {u d : List Bool} (hn : 1 ≤ n) (hu : u.length = 48) (c : Nat) : ((planRow 48 n y u d).any fun k => decide ((c : Int) ∈ k.up)) = (u[c]?).getD false := by
  have h := planRow_up (y := y) (d := d) hn hu
  have h2 := posG_iff 0 u 0 c
  simp only [Nat.zero_add] at h2
  rw [← h] at h2
  rw [Bool.eq_iff_iff, List.any_eq_true]
  simp only [decide_eq_true_eq, List.mem_flatMap] at h2 ⊢
  rw [h2]
  cases u[c]? <;> simp
theorem row_dn {n y : Nat} {u d : List Bool} (hn : 1 ≤ n) (hu : u.length = 48) (c : Nat) : ((planRow 48 n y u d).any fun k => decide ((c : Int) ∈ k.down)) = (d[c]?).getD false := by
  have h := planRow_down (y := y) (d := d) hn hu
  have h2 := posG_iff 0 d 0 c
  simp only [Nat.zero_add] at h2
  rw [← h] at h2
  rw [Bool.eq_iff_iff, List.any_eq_true]
  simp only [decide_eq_true_eq, List.mem_flatMap] at h2 ⊢
  rw [h2]
  cases d[c]? <;> simp
theorem planRow_row {n y : Nat} {u d : List Bool} : ∀ s ∈ planRow 48 n y u d, s.row = (y : Int) := fun s hs => by
  obtain ⟨c, _, rfl⟩ := List.mem_map.1 hs; rfl
theorem any_and {α : Type} {l : List α} {b : Bool} {p : α → Bool} : (l.any fun k => b && p k) = (b && l.any p) := by cases b <;> simp
theorem row_by {P : List Stk} {y : Nat} {a r : Nat} {p : Stk → Bool} (h : ∀ s ∈ P, s.row = (y : Int)) : (P.any fun k => decide (k.row + (a : Int) = (r : Int)) && p k) = (decide (y + a = r) && P.any p) := by
  rw [← any_and]
  rw [Bool.eq_iff_iff, List.any_eq_true, List.any_eq_true]
  constructor
  · rintro ⟨k, h1, h2⟩
    refine ⟨k, h1, ?_⟩
    rw [h k h1] at h2
    simp only [Bool.and_eq_true, decide_eq_true_eq] at h2 ⊢
    exact ⟨by omega, h2.2⟩
  · rintro ⟨k, h1, h2⟩
    refine ⟨k, h1, ?_⟩
    rw [h k h1]
    simp only [Bool.and_eq_true, decide_eq_true_eq] at h2 ⊢
    exact ⟨by omega, h2.2⟩
theorem and_any {α : Type} {l : List α} {b : Bool} {p : α → Bool} : (l.any fun k => p k && b) = (l.any p && b) := by cases b <;> simp
theorem plan_up {n a : Nat} {w : List Int} {r c : Nat} (hn : 1 ≤ n) : ∀ {us ds : List (List Bool)} {y : Nat}, us.length = ds.length → Wid 48 us → byUp (planG 48 n y us ds) a w r c = (decide (y + a ≤ r) && (cell us (r - (y + a)) c && !decide ((c : Int) ∈ w)))
  | [], [], y, _, _ => by simp [planG, byUp, cell]
  | u :: us, d :: ds, y, h, hu => by
    have ih := plan_up (n := n) (a := a) (w := w) (r := r) (c := c) hn (us := us) (ds := ds) (y := y + 1) (by simpa using h) fun x hx => hu x (List.mem_cons_of_mem _ hx)
    unfold byUp at ih ⊢
    rw [planG, List.any_append, ih, row_by planRow_row, and_any, row_up hn (hu u List.mem_cons_self)]
    by_cases h1 : y + a = r
    · subst h1
      have h2 : ¬ y + 1 + a ≤ y + a := by omega
      simp [h2, cell]
    · by_cases h2 : y + 1 + a ≤ r
      · have h3 : y + a ≤ r := by omega
        have h4 : r - (y + a) = r - (y + 1 + a) + 1 := by omega
        simp [h1, h2, h3, h4, cell]
      · have h3 : ¬ y + a ≤ r := by omega
        simp [h1, h2, h3]
  | [], _ :: _, _, h, _ => by simp at h
  | _ :: _, [], _, h, _ => by simp at h
theorem plan_dn {n a : Nat} {w : List Int} {r c : Nat} (hn : 1 ≤ n) : ∀ {us ds : List (List Bool)} {y : Nat}, us.length = ds.length → Wid 48 us → byDn (planG 48 n y us ds) a w r c = (decide (y + a ≤ r) && (cell ds (r - (y + a)) c && !decide (48 + (c : Int) ∈ w)))
  | [], [], y, _, _ => by simp [planG, byDn, cell]
  | u :: us, d :: ds, y, h, hu => by
    have ih := plan_dn (n := n) (a := a) (w := w) (r := r) (c := c) hn (us := us) (ds := ds) (y := y + 1) (by simpa using h) fun x hx => hu x (List.mem_cons_of_mem _ hx)
    unfold byDn at ih ⊢
    rw [planG, List.any_append, ih, row_by planRow_row, and_any, row_dn hn (hu u List.mem_cons_self)]
    by_cases h1 : y + a = r
    · subst h1
      have h2 : ¬ y + 1 + a ≤ y + a := by omega
      simp [h2, cell]
    · by_cases h2 : y + 1 + a ≤ r
      · have h3 : y + a ≤ r := by omega
        have h4 : r - (y + a) = r - (y + 1 + a) + 1 := by omega
        simp [h1, h2, h3, h4, cell]
      · have h3 : ¬ y + a ≤ r := by omega
        simp [h1, h2, h3]
  | [], _ :: _, _, h, _ => by simp at h
  | _ :: _, [], _, h, _ => by simp at h
/-! without troubles -/
theorem run_app {l : List Tr} {B : List Stk} : ∀ (A : List Stk) {i : Nat} {s : Em}, s.stopped = false → (∀ j, i ≤ j → j < i + A.length → trAt l j = []) → runG l i (A ++ B) s = runG l (i + A.length) B (A.foldl strikeG s)
  | [], i, s, _, _ => rfl
  | k :: A, i, s, hs, hq => by
    have h0 := hq i (Nat.le_refl _) (by simp)
    have e : sufG s (trAt l i) = s := by rw [h0]; simp only [sufG, suf]; cases s; simp_all
    rw [List.cons_append, runG, e, hs]
    simp only [Bool.false_eq_true, if_false]
    rw [run_app A (i := i + 1) (s := strikeG s k) hs fun j h1 h2 => hq j (by omega) (by simp; omega), List.foldl_cons, List.length_cons, show i + 1 + A.length = i + (A.length + 1) by omega]
theorem run_quiet {l : List Tr} {P : List Stk} {i : Nat} {s : Em} (hs : s.stopped = false) (hq : ∀ j, i ≤ j → trAt l j = []) : runG l i P s = P.foldl strikeG s := by
  have := run_app (l := l) (B := []) P (i := i) hs fun j h _ => hq j h
  rw [List.append_nil] at this
  rw [this]; rfl
theorem start_ok (w : List Int) : EmOk (startG w) := ⟨⟨blank_len _ _, blank_len _ _, wid_blank _ _, wid_blank _ _⟩⟩
end Go.Proofs.Ytgdcogoacnghkaa.N
