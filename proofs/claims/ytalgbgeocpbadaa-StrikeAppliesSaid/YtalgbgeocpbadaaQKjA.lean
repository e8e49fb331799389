/-
  Chapter 26: a plate with the dots of a strike raised.
-/
import Derived.Test.YtalgbgeocpbadaaQKiA
namespace Go.Proofs.Ytalgbgeocpbadaa.K
set_option linter.unusedSimpArgs false
set_option linter.unusedVariables false
set_option linter.unusedSectionVars false
open Go.Proofs.Ytalgbgeocpbadaa.Am
set_option maxHeartbeats 4000000
/-- the dots l raised in row k -/
def modR (d : List (List Bool)) (k : Nat) (l : List Int) : List (List Bool) := d.modify k fun r => raiseR r l
theorem modR_len (d : List (List Bool)) (k : Nat) (l : List Int) : (modR d k l).length = d.length := by simp [modR]
theorem modR_wid {w k : Nat} {d : List (List Bool)} {l : List Int} (h : Wid w d) : Wid w (modR d k l) := by
  intro r hr
  obtain ⟨i, hi, rfl⟩ := List.mem_iff_getElem.1 hr
  have hi' : i < d.length := by rw [modR_len] at hi; exact hi
  simp only [modR, List.getElem_modify]
  split
  · rw [raiseR_len]; exact wid_get h hi'
  · exact wid_get h hi'
theorem modR_nil {d : List (List Bool)} {k : Nat} : modR d k [] = d := by
  refine List.ext_getElem? fun i => ?_
  unfold modR
  rw [List.getElem?_modify]
  split <;> cases d[i]? <;> rfl
theorem modR_snoc {d : List (List Bool)} {k i x : Nat} {l : List Int} (hi : i < l.length) (hk : k < (modR d k (l.take i)).length) (hx : l[i] = (x : Int)) : (modR d k (l.take i)).set k ((modR d k (l.take i))[k].set x true) = modR d k (l.take (i + 1)) := by
  have hk' : k < d.length := by rw [modR_len] at hk; exact hk
  refine List.ext_getElem (by simp [modR_len]) fun j h1 h2 => ?_
  rw [List.getElem_set]
  split
  · rename_i e
    subst e
    simp only [modR, List.getElem_modify, if_pos]
    rw [raiseR_snoc hi, hx]; rfl
  · rename_i e
    simp only [modR, List.getElem_modify, if_neg e]
theorem modR_set {d : List (List Bool)} {k : Nat} {l : List Int} (hk : k < d.length) : d.set k (raiseR d[k] l) = modR d k l := by
  refine List.ext_getElem (by simp [modR_len]) fun j h1 h2 => ?_
  rw [List.getElem_set]
  split
  · rename_i e; subst e; simp [modR, List.getElem_modify]
  · rename_i e; simp [modR, List.getElem_modify, e]
theorem risG_mem {w : Int} {l : List Int} {last : Int} (h : risG w last l = true) : ∀ x ∈ l, last < x ∧ x < w := by
  induction l generalizing last with
  | nil => intro x hx; cases hx
  | cons y l ih =>
    simp [risG] at h
    obtain ⟨⟨h1, h2⟩, h3⟩ := h
    intro x hx
    rcases List.mem_cons.1 hx with rfl | hx
    · exact ⟨h1, h2⟩
    · have := ih h3 x hx; omega
theorem ris_mem {w : Int} {l : List Int} (h : ris w l = true) : ∀ x ∈ l, 0 ≤ x ∧ x < w := fun x hx => by
  have := risG_mem h x hx; omega
theorem Raise_fn (w h : Nat) (u d : List (List Bool)) (k : Nat) (up down : List Int) (hw : w ≤ 1000) (hh : h ≤ 1000) (hu : u.length = h) (hd : d.length = h) (wu : Wid w u) (wd : Wid w d) (hk : k < h) (l1 : up.length ≤ 100000) (l2 : down.length ≤ 100000) (b1 : ∀ x ∈ up, 0 ≤ x ∧ x < (w : Int)) (b2 : ∀ x ∈ down, 0 ≤ x ∧ x < (w : Int)) : Am.Fn Try.prog 32 [0, 0, 1, 1] [PC w h u d, .agg [I k, IL up, IL down]] (PU w h (modR u k up) (modR d k down)) := by
  have hC := Copied_fn w h u d hw hh hu hd wu wd
  refine fn_introX mixed (X := X32) c32 11 (by simp [X32]) fun Q hR hN => ?_
  simp [X32]
  refine call_of hC ?_
  simp
  have lu : ∀ l, (modR u k l).length = h := fun l => by rw [modR_len, hu]
  have ld : ∀ l, (modR d k l).length = h := fun l => by rw [modR_len, hd]
  have wu' : ∀ l, Wid w (modR u k l) := fun l => modR_wid wu
  have wd' : ∀ l, Wid w (modR d k l) := fun l => modR_wid wd
  refine loopX (fun (p : Nat × List (List Bool)) vs h' => p.1 ≤ up.length ∧ p.2 = modR u k (up.take p.1) ∧ vs = [.undef, .undef, .undef, .ptr 6 1 0, .ptr 7 1 0, .ptr 8 1 0, I p.1, .undef, .undef, .undef] ∧
    h' = [dd, dd, dd, dd, dd, dd, (1, .var [I k, IL up, IL down]), (1, .var [I 0, I 0, .nils, .nils]), (1, .var [I w, I h, .own 9 1 h 1 0 h, .own 10 1 h 1 0 h]), (1, .arr 1 0 false (p.2.map UW)), (1, .arr 1 0 false (d.map UW))]) (fun p => up.length - p.1) (0, u) ?_ ?_
  · simp [hu, hd, modR_nil]
  · rintro ⟨i, U⟩ vs h' ⟨h1, h2, rfl, rfl⟩ Q' hK hX hR'
    dsimp only at h1 h2
    have lU : U.length = h := by rw [h2]; exact lu _
    have wU : Wid w U := by rw [h2]; exact wu' _
    have hkU : k < U.length := by omega
    have wUk := wid_get wU hkU
    by_cases hi : i < up.length
    · have hw1 : IntKind.i64.wrap ((i : Int) + 1) = ((i + 1 : Nat) : Int) := wrap_ok (by omega) (by omega)
      obtain ⟨b3, b4⟩ := b1 _ (List.getElem_mem hi)
      obtain ⟨x, hx⟩ : ∃ x : Nat, up[i] = x := ⟨up[i].toNat, by omega⟩
      have hxw : x < w := by omega
      have hs : U.set k (U[k].set x true) = modR u k (up.take (i + 1)) := by
        subst h2
        exact modR_snoc hi hkU hx
      simp [hi, hk, hx, hxw, lU, wUk, hw1]
      rw [uw_set, hs]
      refine hK (i + 1, modR u k (up.take (i + 1))) _ _ (by dsimp only; omega) ?_
      simp [lu]
      omega
    · obtain rfl : i = up.length := by omega
      rw [List.take_length] at h2
      simp
      refine hX _ _ _ ?_
      simp
      clear hK hX hR'
      refine loopX (fun (p : Nat × List (List Bool)) vs h' => p.1 ≤ down.length ∧ p.2 = modR d k (down.take p.1) ∧ vs = [.undef, .undef, .undef, .ptr 6 1 0, .ptr 7 1 0, .ptr 8 1 0, .undef, I p.1, .undef, .undef] ∧
        h' = [dd, dd, dd, dd, dd, dd, (1, .var [I k, IL up, IL down]), (1, .var [I 0, I 0, .nils, .nils]), (1, .var [I w, I h, .own 9 1 h 1 0 h, .own 10 1 h 1 0 h]), (1, .arr 1 0 false (U.map UW)), (1, .arr 1 0 false (p.2.map UW))]) (fun p => down.length - p.1) (0, d) ?_ ?_
      · simp [hd, modR_nil]
      · rintro ⟨i, V⟩ vs h' ⟨g1, g2, rfl, rfl⟩ Q' hK hX hR'
        dsimp only at g1 g2
        have lV : V.length = h := by rw [g2]; exact ld _
        have wV : Wid w V := by rw [g2]; exact wd' _
        have hkV : k < V.length := by omega
        have wVk := wid_get wV hkV
        by_cases hi : i < down.length
        · have hw1 : IntKind.i64.wrap ((i : Int) + 1) = ((i + 1 : Nat) : Int) := wrap_ok (by omega) (by omega)
          obtain ⟨b3, b4⟩ := b2 _ (List.getElem_mem hi)
          obtain ⟨x, hx⟩ : ∃ x : Nat, down[i] = x := ⟨down[i].toNat, by omega⟩
          have hxw : x < w := by omega
          have hs : V.set k (V[k].set x true) = modR d k (down.take (i + 1)) := by
            subst g2
            exact modR_snoc hi hkV hx
          simp [hi, hk, hx, hxw, lV, wVk, hw1]
          rw [uw_set, hs]
          refine hK (i + 1, modR d k (down.take (i + 1))) _ _ (by dsimp only; omega) ?_
          simp [ld]
          omega
        · obtain rfl : i = down.length := by omega
          rw [List.take_length] at g2
          simp
          refine hX _ _ _ ?_
          simp
          refine hR _ _ ?_
          simp [X32, h2, g2, lu, ld]
end Go.Proofs.Ytalgbgeocpbadaa.K
