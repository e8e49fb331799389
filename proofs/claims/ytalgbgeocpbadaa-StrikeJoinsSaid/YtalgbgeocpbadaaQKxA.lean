/-
  Chapter 26, plain: strikes performed after others raise the dots of both.
-/
import Derived.Test.YtalgbgeocpbadaaQKsA
namespace Go.Proofs.Ytalgbgeocpbadaa.K
set_option linter.unusedSimpArgs false
set_option linter.unusedVariables false
set_option linter.unusedSectionVars false
open Go.Proofs.Ytalgbgeocpbadaa.Am
def orR (a b : List Bool) : List Bool := List.zipWith (· || ·) a b
def orD (a b : List (List Bool)) : List (List Bool) := List.zipWith orR a b
theorem orR_len {a b : List Bool} (h : a.length = b.length) : (orR a b).length = b.length := by simp [orR, h]
theorem orD_len {a b : List (List Bool)} (h : a.length = b.length) : (orD a b).length = b.length := by simp [orD, h]
theorem orR_comm (a b : List Bool) : orR a b = orR b a := by
  unfold orR; rw [List.zipWith_comm]; congr 1; funext x y; exact Bool.or_comm _ _
theorem orD_comm (a b : List (List Bool)) : orD a b = orD b a := by
  unfold orD; rw [List.zipWith_comm]; congr 1; funext x y; exact orR_comm _ _
theorem orR_set {a b : List Bool} (h : a.length = b.length) (k : Nat) : (orR a b).set k true = orR a (b.set k true) := by
  refine List.ext_getElem (by simp [orR]) fun j h1 h2 => ?_
  simp only [List.getElem_set, orR, List.getElem_zipWith]
  split <;> simp
theorem orR_raise {a : List Bool} : ∀ (l : List Int) (b : List Bool), a.length = b.length → raiseR (orR a b) l = orR a (raiseR b l)
  | [], b, _ => rfl
  | x :: l, b, h => by rw [raiseR_cons, raiseR_cons, orR_set h, orR_raise l _ (by simpa using h)]
theorem orR_blank {a : List Bool} {w : Nat} (h : a.length = w) : orR a (List.replicate w false) = a := by
  refine List.ext_getElem (by simp [orR, h]) fun j h1 h2 => ?_
  simp [orR]
theorem orD_get {a b : List (List Bool)} {k : Nat} (h1 : k < a.length) (h2 : k < b.length) (h3 : k < (orD a b).length) : (orD a b)[k] = orR a[k] b[k] := by simp [orD]
theorem orD_blank {a : List (List Bool)} {w h : Nat} (ha : a.length = h) (wa : Wid w a) : orD a (blankD w h) = a := by
  refine List.ext_getElem (by simp [orD, ha, blankD]) fun j h1 h2 => ?_
  rw [orD_get h2 (by rw [blank_len]; omega)]
  have : (blankD w h)[j]'(by rw [blank_len]; omega) = List.replicate w false := by simp [blankD]
  rw [this, orR_blank (wid_get wa h2)]
theorem orD_mod {w : Nat} {a b : List (List Bool)} (k : Nat) (l : List Int) (h : a.length = b.length) (wa : Wid w a) (wb : Wid w b) : modR (orD a b) k l = orD a (modR b k l) := by
  refine List.ext_getElem (by simp [modR_len, orD]) fun j h1 h2 => ?_
  have hl := orD_len h
  rw [modR_len, hl] at h1
  have ja : j < a.length := by omega
  have jm : j < (modR b k l).length := by rw [modR_len]; exact h1
  have jo : j < (orD a b).length := by rw [hl]; exact h1
  rw [orD_get ja jm]
  simp only [modR, List.getElem_modify]
  split
  · rw [orD_get ja h1 jo, orR_raise _ _ (by rw [wid_get wa ja, wid_get wb h1])]
  · rw [orD_get ja h1 jo]
theorem orD_wid {w : Nat} {a b : List (List Bool)} (h : a.length = b.length) (wa : Wid w a) (wb : Wid w b) : Wid w (orD a b) := fun r hr => by
  obtain ⟨j, hj, rfl⟩ := List.mem_iff_getElem.1 hr
  have hl := orD_len h
  rw [orD_get (by omega) (by omega), orR_len (by rw [wid_get wa (by omega), wid_get wb (by omega)]), wid_get wb (by omega)]
/-- the front's and the back's dots after strikes -/
def upG (u : List (List Bool)) (l : List Stk) : List (List Bool) := l.foldl (fun u s => modR u s.row.toNat s.up) u
def dnG (u : List (List Bool)) (l : List Stk) : List (List Bool) := l.foldl (fun u s => modR u s.row.toNat s.down) u
theorem applyG_all {w h : Nat} : ∀ (l : List Stk) (k : Nat) (u d : List (List Bool)), (∀ s ∈ l, poss w h s = true) → applyG w h k u d l = ⟨w, h, upG u l, dnG d l, ((k + l.length : Nat) : Int), 0⟩
  | [], k, u, d, _ => rfl
  | s :: l, k, u, d, hs => by
    rw [applyG, if_pos (hs s (List.mem_cons_self ..)), applyG_all l (k + 1) _ _ fun t ht => hs t (List.mem_cons_of_mem _ ht)]
    simp only [upG, dnG, List.foldl_cons, List.length_cons]
    rw [show k + 1 + l.length = k + (l.length + 1) by omega]
theorem upG_len (l : List Stk) : ∀ u, (upG u l).length = u.length := by
  induction l with
  | nil => intro u; rfl
  | cons s l ih => intro u; exact (ih _).trans (modR_len _ _ _)
theorem dnG_len (l : List Stk) : ∀ u, (dnG u l).length = u.length := by
  induction l with
  | nil => intro u; rfl
  | cons s l ih => intro u; exact (ih _).trans (modR_len _ _ _)
theorem upG_wid {w : Nat} (l : List Stk) : ∀ {u}, Wid w u → Wid w (upG u l) := by
  induction l with
  | nil => intro u h; exact h
  | cons s l ih => intro u h; exact ih (modR_wid h)
theorem dnG_wid {w : Nat} (l : List Stk) : ∀ {u}, Wid w u → Wid w (dnG u l) := by
  induction l with
  | nil => intro u h; exact h
  | cons s l ih => intro u h; exact ih (modR_wid h)
theorem upG_or {w : Nat} (l : List Stk) : ∀ {a b : List (List Bool)}, a.length = b.length → Wid w a → Wid w b → upG (orD a b) l = orD a (upG b l) := by
  induction l with
  | nil => intro a b _ _ _; rfl
  | cons s l ih =>
    intro a b h wa wb
    show upG (modR (orD a b) _ _) l = orD a (upG (modR b _ _) l)
    rw [orD_mod _ _ h wa wb, ih (by rw [modR_len]; exact h) wa (modR_wid wb)]
theorem dnG_or {w : Nat} (l : List Stk) : ∀ {a b : List (List Bool)}, a.length = b.length → Wid w a → Wid w b → dnG (orD a b) l = orD a (dnG b l) := by
  induction l with
  | nil => intro a b _ _ _; rfl
  | cons s l ih =>
    intro a b h wa wb
    show dnG (modR (orD a b) _ _) l = orD a (dnG (modR b _ _) l)
    rw [orD_mod _ _ h wa wb, ih (by rw [modR_len]; exact h) wa (modR_wid wb)]
theorem upG_both (w h : Nat) (a b : List Stk) : upG (blankD w h) (a ++ b) = orD (upG (blankD w h) a) (upG (blankD w h) b) := by
  have la : (upG (blankD w h) a).length = h := by rw [upG_len, blank_len]
  have wa : Wid w (upG (blankD w h) a) := upG_wid a (wid_blank w h)
  have : upG (blankD w h) (a ++ b) = upG (upG (blankD w h) a) b := List.foldl_append
  rw [this, ← upG_or b (by rw [la, blank_len]) wa (wid_blank w h), orD_blank la wa]
theorem dnG_both (w h : Nat) (a b : List Stk) : dnG (blankD w h) (a ++ b) = orD (dnG (blankD w h) a) (dnG (blankD w h) b) := by
  have la : (dnG (blankD w h) a).length = h := by rw [dnG_len, blank_len]
  have wa : Wid w (dnG (blankD w h) a) := dnG_wid a (wid_blank w h)
  have : dnG (blankD w h) (a ++ b) = dnG (dnG (blankD w h) a) b := List.foldl_append
  rw [this, ← dnG_or b (by rw [la, blank_len]) wa (wid_blank w h), orD_blank la wa]
end Go.Proofs.Ytalgbgeocpbadaa.K
