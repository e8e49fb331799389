/-
  Chapter 27, plain: troubles by their places.
-/
import Derived.Test.YtgdcogoacnghkaaQNxP
namespace Go.Proofs.Ytgdcogoacnghkaa.N
set_option linter.unusedSimpArgs false
set_option linter.unusedVariables false
set_option linter.unusedSectionVars false
open Go.Proofs.Ytgdcogoacnghkaa.Am
def at' (l : List Tr) (x : Int) : List Tr := l.filter fun t => decide (t.pl = x)
theorem at_len (l : List Tr) (x : Int) : (at' l x).length ≤ l.length := List.length_filter_le _ _
theorem at_snoc {l : List Tr} {t : Tr} {x : Int} : at' (l ++ [t]) x = at' l x ++ if t.pl = x then [t] else [] := by
  unfold at'
  rw [List.filter_append]
  congr 1
  by_cases h : t.pl = x <;> simp [h]
theorem at_trAt (l : List Tr) (i : Nat) : at' l (i : Int) = trAt l i := rfl
/-- what a map holds: for each place, its troubles -/
def vals (l : List Tr) (K : List Int) : List PV := K.map fun x => .uslc ((at' l x).map trC)
def fvals (l : List Tr) (K : List Int) : List PV := K.map fun x => .slc ((at' l x).map trC)
structure Grp (l : List Tr) (K : List Int) : Prop where
  nodup : K.Nodup
  mem : ∀ x, x ∈ K ↔ ∃ t, t ∈ l ∧ t.pl = x
theorem Grp.nil : Grp [] [] := ⟨List.nodup_nil, by simp⟩
theorem vals_nil (l : List Tr) : vals l [] = [] := rfl
@[simp] theorem vals_len (l : List Tr) (K : List Int) : (vals l K).length = K.length := by simp [vals]
@[simp] theorem fvals_len (l : List Tr) (K : List Int) : (fvals l K).length = K.length := by simp [fvals]
theorem vals_get {l : List Tr} {K : List Int} {i : Nat} {x : Int} (h : K[i]? = some x) : (vals l K)[i]? = some (.uslc ((at' l x).map trC)) := by simp [vals, h]
theorem fvals_get {l : List Tr} {K : List Int} {i : Nat} {x : Int} (h : K[i]? = some x) : (fvals l K)[i]? = some (.slc ((at' l x).map trC)) := by simp [fvals, h]
@[simp ↓] theorem vals_all (l : List Tr) (K : List Int) : (vals l K).all mvS = true := by
  simp only [vals, List.all_map, List.all_eq_true]
  intro x _; rfl
@[simp ↓] theorem fvals_all (l : List Tr) (K : List Int) : (fvals l K).all mvS = true := by
  simp only [fvals, List.all_map, List.all_eq_true]
  intro x _; rfl
@[simp] theorem vals_frz (l : List Tr) (K : List Int) : (vals l K).map frzC = fvals l K := by
  simp only [vals, fvals, List.map_map]; rfl
theorem at_pos {l : List Tr} {K : List Int} {x : Int} (g : Grp l K) (h : x ∈ K) : 0 < (at' l x).length := by
  obtain ⟨t, h1, h2⟩ := (g.mem x).1 h
  exact List.length_pos_of_mem (a := t) (by simp [at', h1, h2])
theorem at_nil {l : List Tr} {K : List Int} {x : Int} (g : Grp l K) (h : ¬ x ∈ K) : at' l x = [] := by
  unfold at'
  rw [List.filter_eq_nil_iff]
  intro t ht
  simp
  intro e
  exact h ((g.mem x).2 ⟨t, ht, e⟩)
theorem mfind_none {x : Int} : ∀ {K : List Int} {n : Nat}, ¬ x ∈ K → mfind (.int .i64 x) (K.map fun n => .int .i64 n) n = some none
  | [], n, _ => rfl
  | y :: K, n, h => by
    simp only [List.mem_cons, not_or] at h
    have e : sameK (.int .i64 x) (.int .i64 y) = some false := by simp [sameK, h.1]
    rw [List.map_cons, mfind, e]
    exact mfind_none h.2
theorem mfind_some {x : Int} : ∀ {K : List Int} {n i : Nat}, K.Nodup → K[i]? = some x → mfind (.int .i64 x) (K.map fun n => .int .i64 n) n = some (some (n + i))
  | [], n, i, _, h => by simp at h
  | y :: K, n, i, hn, h => by
    cases i with
    | zero =>
      simp at h; subst h
      have e : sameK (.int .i64 y) (.int .i64 y) = some true := by simp [sameK]
      rw [List.map_cons, mfind, e]; rfl
    | succ i =>
      simp at h
      rw [List.nodup_cons] at hn
      have hx : ¬ x = y := fun e => hn.1 (e ▸ List.mem_of_getElem? h)
      have e : sameK (.int .i64 x) (.int .i64 y) = some false := by simp [sameK, hx]
      rw [List.map_cons, mfind, e]
      show mfind _ _ _ = _
      rw [mfind_some hn.2 h]
      congr 2; omega
theorem vals_set {l : List Tr} {K : List Int} {t : Tr} {i : Nat} (g : Grp l K) (h : K[i]? = some t.pl) : (vals l K).set i (.uslc ((at' l t.pl).map trC ++ [trC t])) = vals (l ++ [t]) K := by
  refine List.ext_getElem? fun j => ?_
  by_cases hij : i = j
  · subst hij
    have hi : i < K.length := (List.getElem?_eq_some_iff.1 h).1
    rw [List.getElem?_set_self (by rw [vals_len]; exact hi), vals_get h, at_snoc, if_pos rfl, List.map_append]; rfl
  · rw [List.getElem?_set_ne hij]
    cases hj : K[j]? with
    | none => simp [vals, hj]
    | some y =>
      rw [vals_get hj, vals_get hj, at_snoc, if_neg, List.append_nil]
      intro e
      rw [← e] at hj
      have h1 := (List.getElem?_eq_some_iff.1 h)
      have h2 := (List.getElem?_eq_some_iff.1 hj)
      obtain ⟨h11, h12⟩ := h1
      obtain ⟨h21, h22⟩ := h2
      exact hij ((List.getElem_inj g.nodup).1 (h12.trans h22.symm))
theorem vals_push {l : List Tr} {K : List Int} {t : Tr} (g : Grp l K) (h : ¬ t.pl ∈ K) : vals l K ++ [.uslc [trC t]] = vals (l ++ [t]) (K ++ [t.pl]) := by
  unfold vals
  rw [List.map_append]
  congr 1
  · refine List.map_congr_left fun x hx => ?_
    rw [at_snoc, if_neg, List.append_nil]
    rintro rfl; exact h hx
  · rw [List.map_singleton, at_snoc, if_pos rfl, at_nil g h]; rfl
theorem Grp.same {l : List Tr} {K : List Int} {t : Tr} (g : Grp l K) (h : t.pl ∈ K) : Grp (l ++ [t]) K := by
  refine ⟨g.nodup, fun x => ?_⟩
  rw [g.mem]
  constructor
  · rintro ⟨s, h1, h2⟩; exact ⟨s, List.mem_append_left _ h1, h2⟩
  · rintro ⟨s, h1, h2⟩
    rcases List.mem_append.1 h1 with h1 | h1
    · exact ⟨s, h1, h2⟩
    · simp at h1; subst h1; subst h2; exact (g.mem _).1 h
theorem Grp.push {l : List Tr} {K : List Int} {t : Tr} (g : Grp l K) (h : ¬ t.pl ∈ K) : Grp (l ++ [t]) (K ++ [t.pl]) := by
  refine ⟨?_, fun x => ?_⟩
  · rw [List.nodup_append]
    refine ⟨g.nodup, by simp, fun a ha b hb => ?_⟩
    simp at hb; subst hb
    rintro rfl; exact h ha
  · rw [List.mem_append, g.mem]
    constructor
    · rintro (⟨s, h1, h2⟩ | h1)
      · exact ⟨s, List.mem_append_left _ h1, h2⟩
      · simp at h1; exact ⟨t, by simp, h1.symm⟩
    · rintro ⟨s, h1, h2⟩
      rcases List.mem_append.1 h1 with h1 | h1
      · exact .inl ⟨s, h1, h2⟩
      · simp at h1; subst h1; subst h2; exact .inr (by simp)
end Go.Proofs.Ytgdcogoacnghkaa.N
