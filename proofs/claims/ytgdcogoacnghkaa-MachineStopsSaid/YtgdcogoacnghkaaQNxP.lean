/-
  Chapter 27, plain: the embosser.
-/
import Derived.Test.YtgdcogoacnghkaaQNwA
namespace Go.Proofs.Ytgdcogoacnghkaa.N
set_option linter.unusedSimpArgs false
set_option linter.unusedVariables false
set_option linter.unusedSectionVars false
open Go.Proofs.Ytgdcogoacnghkaa.Am
/-- a pin wears out -/
def wear (n : Int) (w : List Int) : List Int := if 0 ≤ n ∧ n < 96 ∧ ¬ n ∈ w then w ++ [n] else w
/-- troubles, one after the other: stopped? slips, worn pins -/
def suf : List Tr → Nat → List Int → Bool × Nat × List Int
  | [], a, w => (false, a, w)
  | t :: l, a, w => if t.kind = 1 ∨ t.kind = 4 then (true, a, w) else if t.kind = 2 then suf l (a + 1) w else if t.kind = 3 then suf l a (wear t.n w) else suf l a w
def spent (w : List Int) : List Bool := (List.range 96).map fun (i : Nat) => decide ((i : Int) ∈ w)
@[simp] theorem spent_len (w : List Int) : (spent w).length = 96 := by simp [spent]
theorem spent_get {w : List Int} {i : Nat} (h : i < (spent w).length) : (spent w)[i] = decide ((i : Int) ∈ w) := by simp [spent]
theorem spent_set {w : List Int} {i : Nat} (hi : i < 96) : (spent w).set i true = spent (w ++ [(i : Int)]) := by
  refine List.ext_getElem (by simp) fun j h1 h2 => ?_
  rw [List.getElem_set, spent_get, spent_get]
  split
  · rename_i e; subst e; simp
  · rename_i e
    have : ¬ (j : Int) = (i : Int) := by omega
    simp [this]
theorem wear_len (n : Int) (w : List Int) : (wear n w).length ≤ w.length + 1 := by unfold wear; split <;> simp
theorem suf_len (l : List Tr) : ∀ a w, (suf l a w).2.2.length ≤ w.length + l.length ∧ (suf l a w).2.1 ≤ a + l.length := by
  induction l with
  | nil => intro a w; simp [suf]
  | cons t l ih =>
    intro a w
    unfold suf
    split
    · simp
    · split
      · have := ih (a + 1) w; simp; omega
      · split
        · have := ih a (wear t.n w); have := wear_len t.n w; simp; omega
        · have := ih a w; simp; omega
/-- the dots l of a row raised, if there is such a row -/
def hitR (d : List (List Bool)) (y : Int) (l : List Int) : List (List Bool) := if 0 ≤ y ∧ y < 12 then modR d y.toNat l else d
theorem hitR_len {d : List (List Bool)} {y : Int} {l : List Int} : (hitR d y l).length = d.length := by unfold hitR; split; exact modR_len _ _ _; rfl
theorem hitR_wid {d : List (List Bool)} {y : Int} {l : List Int} {w : Nat} (h : Wid w d) : Wid w (hitR d y l) := by unfold hitR; split; exact modR_wid h; exact h
/-- the embosser's state -/
structure Em where
  u : List (List Bool)
  d : List (List Bool)
  strikes : Nat
  slip : Nat
  worn : List Int
  stopped : Bool
/-- a strike -/
def strikeG (s : Em) (k : Stk) : Em := { s with u := hitR s.u (k.row + s.slip) (alive 0 s.worn k.up), d := hitR s.d (k.row + s.slip) (alive 48 s.worn k.down), strikes := s.strikes + 1 }
def sufG (s : Em) (l : List Tr) : Em := { s with stopped := (suf l s.slip s.worn).1, slip := (suf l s.slip s.worn).2.1, worn := (suf l s.slip s.worn).2.2 }
/-- the troubles ahead of strike i -/
def trAt (l : List Tr) (i : Nat) : List Tr := l.filter fun t => decide (t.pl = (i : Int))
def runG (l : List Tr) : Nat → List Stk → Em → Em
  | _, [], s => s
  | i, k :: ks, s => if (sufG s (trAt l i)).stopped then sufG s (trAt l i) else runG l (i + 1) ks (strikeG (sufG s (trAt l i)) k)
def startG (worn : List Int) : Em := ⟨blankD 48 12, blankD 48 12, 0, 0, worn, false⟩
def outG (s : Em) : Oc := ⟨48, 12, s.u, s.d, s.strikes, !s.stopped, s.worn⟩
/-- WHAT IS MADE -/
def makeG (u d : List (List Bool)) (n : Nat) (worn : List Int) (l : List Tr) : Em := runG l 0 (planG 48 n 0 u d) (startG worn)
theorem plotD_hit {w : Nat} {u : List (List Bool)} {y : Int} {l : List Int} (hb : ∀ x ∈ l, 0 ≤ x ∧ x < (w : Int)) : plotD w 12 u (l.map fun c => (c, y)) = hitR u y l := by
  unfold hitR
  split
  · rename_i hy
    unfold plotD modR
    induction l generalizing u with
    | nil =>
      refine List.ext_getElem? fun i => ?_
      rw [List.getElem?_modify]
      show u[i]? = _
      split <;> cases u[i]? <;> rfl
    | cons x l ih =>
      have hx := hb x List.mem_cons_self
      rw [List.map_cons, List.foldl_cons, ih fun z hz => hb z (List.mem_cons_of_mem _ hz)]
      unfold plot1
      rw [if_pos (by dsimp only; omega)]
      refine List.ext_getElem? fun i => ?_
      rw [List.getElem?_modify, List.getElem?_modify, List.getElem?_modify]
      split <;> cases u[i]? <;> rfl
  · rename_i hy
    unfold plotD
    induction l with
    | nil => rfl
    | cons x l ih =>
      rw [List.map_cons, List.foldl_cons]
      rw [show plot1 w 12 u (x, y) = u from if_neg (by dsimp only; omega)]
      exact ih fun z hz => hb z (List.mem_cons_of_mem _ hz)
end Go.Proofs.Ytgdcogoacnghkaa.N
