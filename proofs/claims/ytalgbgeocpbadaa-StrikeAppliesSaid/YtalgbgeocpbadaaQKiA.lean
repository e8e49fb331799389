/-
  Chapter 26: plates copied, strikes performed.
-/
import Derived.Test.YtalgbgeocpbadaaQKhA
namespace Go.Proofs.Ytalgbgeocpbadaa.K
set_option linter.unusedSimpArgs false
set_option linter.unusedVariables false
set_option linter.unusedSectionVars false
open Go.Proofs.Ytalgbgeocpbadaa.Am
set_option maxHeartbeats 4000000
/-- rows of w dots -/
def Wid (w : Nat) (d : List (List Bool)) : Prop := ∀ r ∈ d, r.length = w
theorem wid_get {w : Nat} {d : List (List Bool)} (h : Wid w d) {k : Nat} (hk : k < d.length) : d[k].length = w := h _ (List.getElem_mem hk)
theorem wid_blank (w h : Nat) : Wid w (blankD w h) := fun r hr => by rw [List.eq_of_mem_replicate hr]; simp
theorem blank_len (w h : Nat) : (blankD w h).length = h := by simp [blankD]
theorem wid_set {w k : Nat} {d : List (List Bool)} {r : List Bool} (h : Wid w d) (hr : r.length = w) : Wid w (d.set k r) := fun x hx => by
  rcases List.mem_or_eq_of_mem_set hx with h1 | h1
  · exact h x h1
  · rw [h1]; exact hr
theorem nr_uw (d : List (List Bool)) : ∀ x, x ∈ d.map UW → noRefE x = true := fun x hx => by
  obtain ⟨r, _, rfl⟩ := List.mem_map.1 hx; rfl
/-- the first k rows, and j dots of the next, are those of d -/
structure Cpy (d : List (List Bool)) (w k j : Nat) (U : List (List Bool)) : Prop where
  len : U.length = d.length
  wid : Wid w U
  rows : ∀ i, i < k → U[i]? = d[i]?
  dots : ∀ x, x < j → (U[k]?.bind (·[x]?)) = (d[k]?.bind (·[x]?))
theorem Cpy.start (d : List (List Bool)) (w : Nat) : Cpy d w 0 0 (blankD w d.length) := ⟨blank_len _ _, wid_blank _ _, fun i hi => by omega, fun x hx => by omega⟩
theorem Cpy.step {d U : List (List Bool)} {w k j : Nat} (c : Cpy d w k j U) (hd : Wid w d) (hk : k < d.length) (hj : j < w) {hkU : k < U.length} {b : Bool} (hb : (d[k])[j]? = some b) : Cpy d w k (j + 1) (U.set k (U[k].set j b)) := by
  refine ⟨by simp [c.len], wid_set c.wid (by simp [wid_get c.wid hkU]), fun i hi => by rw [List.getElem?_set_ne (by omega)]; exact c.rows i hi, fun x hx => ?_⟩
  rw [List.getElem?_set_self hkU]
  simp only [Option.bind_some]
  by_cases hxj : x = j
  · subst hxj
    rw [List.getElem?_set_self (by rw [wid_get c.wid hkU]; exact hj), List.getElem?_eq_getElem hk, Option.bind_some, hb]
  · rw [List.getElem?_set_ne (Ne.symm hxj)]
    have := c.dots x (by omega)
    rw [List.getElem?_eq_getElem hkU] at this
    exact this
theorem Cpy.row {d U : List (List Bool)} {w k : Nat} (c : Cpy d w k w U) (hd : Wid w d) (hk : k < d.length) : Cpy d w (k + 1) 0 U := by
  refine ⟨c.len, c.wid, fun i hi => ?_, fun x hx => by omega⟩
  by_cases hik : i = k
  · subst hik
    have hkU : i < U.length := by rw [c.len]; exact hk
    rw [List.getElem?_eq_getElem hkU, List.getElem?_eq_getElem hk]
    congr 1
    refine List.ext_getElem? fun x => ?_
    by_cases hx : x < w
    · have := c.dots x hx
      rw [List.getElem?_eq_getElem hkU, List.getElem?_eq_getElem hk] at this
      exact this
    · rw [List.getElem?_eq_none (by rw [wid_get c.wid hkU]; omega), List.getElem?_eq_none (by rw [wid_get hd hk]; omega)]
  · exact c.rows i (by omega)
theorem Cpy.done {d U : List (List Bool)} {w : Nat} (c : Cpy d w d.length 0 U) : U = d := List.ext_getElem? fun i => by
  by_cases hi : i < d.length
  · exact c.rows i hi
  · rw [List.getElem?_eq_none (by rw [c.len]; omega), List.getElem?_eq_none (by omega)]
theorem Cpy.done' {d U : List (List Bool)} {w k : Nat} (c : Cpy d w k 0 U) (h : d.length = k) : U = d := by subst h; exact c.done
theorem uw_set {U : List (List Bool)} {k j : Nat} {r : List Bool} {b : Bool} : (U.map UW).set k (.uslc ((r.map .bool).set j (.bool b))) = (U.set k (r.set j b)).map UW := by rw [List.map_set, UW, List.map_set]
theorem Copied_fn (w h : Nat) (u d : List (List Bool)) (hw : w ≤ 1000) (hh : h ≤ 1000) (hu : u.length = h) (hd : d.length = h) (wu : Wid w u) (wd : Wid w d) : Am.Fn Try.prog 41 [0, 0, 1, 1] [PC w h u d] (PU w h u d) := by
  have hB := Blank_fn w h hw hh
  have c0 := Cpy.start u w
  have d0 := Cpy.start d w
  rw [hu] at c0; rw [hd] at d0
  have l0 := blank_len w h
  generalize blankD w h = U0 at hB c0 d0 l0
  refine fn_introX mixed (X := X41) c41 10 (by simp [X41]) fun Q hR hN => ?_
  simp [X41]
  refine call_of hB ?_
  simp [l0]
  refine loopX (fun (p : Nat × List (List Bool) × List (List Bool)) vs h' => p.1 ≤ h ∧ Cpy u w p.1 0 p.2.1 ∧ Cpy d w p.1 0 p.2.2 ∧ vs = [.undef, .ptr 5 1 0, .ptr 6 1 0, .ptr 7 1 0, I p.1, .undef, .undef, .undef] ∧
    h' = [dd, dd, dd, dd, dd, (1, .var [I w, I h, DT u, DT d]), (1, .var [I 0, I 0, .nils, .nils]), (1, .var [I w, I h, .own 8 1 h 1 0 h, .own 9 1 h 1 0 h]), (1, .arr 1 0 false (p.2.1.map UW)), (1, .arr 1 0 false (p.2.2.map UW))]) (fun p => h - p.1) (0, U0, U0) ?_ ?_
  · simp [c0, d0]
  · rintro ⟨k, U, V⟩ vs h' ⟨h1, h2, h3, rfl, rfl⟩ Q' hK hX hR'
    dsimp only at h1 h2 h3
    by_cases hk : k < h
    · simp [hk]
      refine loopX (fun (p : Nat × List (List Bool) × List (List Bool)) vs h' => p.1 ≤ w ∧ Cpy u w k p.1 p.2.1 ∧ Cpy d w k p.1 p.2.2 ∧ vs = [.undef, .ptr 5 1 0, .ptr 6 1 0, .ptr 7 1 0, I k, I p.1, .undef, .undef] ∧
        h' = [dd, dd, dd, dd, dd, (1, .var [I w, I h, DT u, DT d]), (1, .var [I 0, I 0, .nils, .nils]), (1, .var [I w, I h, .own 8 1 h 1 0 h, .own 9 1 h 1 0 h]), (1, .arr 1 0 false (p.2.1.map UW)), (1, .arr 1 0 false (p.2.2.map UW))]) (fun p => w - p.1) (0, U, V) ?_ ?_
      · simp [h2, h3]
      · rintro ⟨j, U2, V2⟩ vs h' ⟨g1, g2, g3, rfl, rfl⟩ Q2 hK2 hX2 hR2
        dsimp only at g1 g2 g3
        have lU : U2.length = h := by rw [g2.len, hu]
        have lV : V2.length = h := by rw [g3.len, hd]
        have hkU : k < U2.length := by omega
        have hkV : k < V2.length := by omega
        have hku : k < u.length := by omega
        have hkd : k < d.length := by omega
        have wU := wid_get g2.wid hkU
        have wV := wid_get g3.wid hkV
        have wuk := wid_get wu hku
        have wdk := wid_get wd hkd
        by_cases hj : j < w
        · have hw2 : IntKind.i64.wrap ((j : Int) + 1) = ((j + 1 : Nat) : Int) := wrap_ok (by omega) (by omega)
          have hju : j < u[k].length := by omega
          have hjd : j < d[k].length := by omega
          simp [hk, hj, lU, lV, hkU, hkV, wU, wV, hku, hkd, hju, hjd, hw2]
          rw [uw_set, uw_set]
          have s1 := g2.step wu hku hj (hkU := hkU) (List.getElem?_eq_getElem hju)
          have s2 := g3.step wd hkd hj (hkU := hkV) (List.getElem?_eq_getElem hjd)
          generalize U2.set k (U2[k].set j u[k][j]) = U3 at s1
          generalize V2.set k (V2[k].set j d[k][j]) = V3 at s2
          have l3 : U3.length = h := by rw [s1.len, hu]
          have l4 : V3.length = h := by rw [s2.len, hd]
          refine hK2 (j + 1, U3, V3) _ _ (by dsimp only; omega) ?_
          simp [s1, s2]
          omega
        · obtain rfl : j = w := by omega
          have hw1 : IntKind.i64.wrap ((k : Int) + 1) = ((k + 1 : Nat) : Int) := wrap_ok (by omega) (by omega)
          simp
          refine hX2 _ _ _ ?_
          simp [hw1]
          refine hK (k + 1, U2, V2) _ _ (by dsimp only; omega) ?_
          simp
          exact ⟨by omega, g2.row wu hku, g3.row wd hkd⟩
    · obtain rfl : k = h := by omega
      have e1 := h2.done' hu
      have e2 := h3.done' hd
      subst e1; subst e2
      simp
      refine hX _ _ _ ?_
      simp
      refine hR _ _ ?_
      simp [X41, hu, hd]
end Go.Proofs.Ytalgbgeocpbadaa.K
