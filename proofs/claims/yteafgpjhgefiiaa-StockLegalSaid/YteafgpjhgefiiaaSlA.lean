/-
  Chapter 30: legal matchings, the reference's and stock's.
-/
import Derived.Test.YteafgpjhgefiiaaSgA
namespace Go.Proofs.Yteafgpjhgefiiaa.S
set_option linter.unusedSimpArgs false
set_option linter.unusedVariables false
set_option linter.unusedSectionVars false
open Go.Proofs.Yteafgpjhgefiiaa.Am
set_option maxHeartbeats 2000000
def bad (s : List Nat) (u : List Int) (x : Nat) (k : Int) : Bool := decide (k < 0) || decide ((s.length : Int) ≤ k) || decide (k ∈ u) || !decide (s[k.toNat]? = some x)
def legG (s : List Nat) : List Int → List Nat → List Int → Nat → Option Nat
  | u, x :: w, k :: l, n => if k = -1 then legG s (u ++ [k]) w l (n + 1) else if bad s u x k = true then none else legG s (u ++ [k]) w l n
  | _, _, _, n => some n
def legal (s w : List Nat) (l : List Int) (m : Int) : Bool := decide (l.length = w.length) && match legG s [] w l 0 with
  | none => false
  | some n => decide ((n : Int) = m)
theorem legG_nil (s : List Nat) (u l : List Int) (n : Nat) : legG s u [] l n = some n := by unfold legG; rfl
theorem RLegal_fn (s w : List Nat) (l : List Int) (m : Int) (hs : Pl s) (hw : Pl w) (hl : l.length ≤ maxLen) (hb : ∀ i ∈ l, -9223372036854775808 ≤ i ∧ i < 9223372036854775808) : Am.Fn Try.prog 18 [0] [PL s, PL w, MT l m] (.bool (legal s w l m)) := by
  refine fn_introX mixed (X := X18) c18 2 (by simp [X18]) fun Q hR hN => ?_
  have hsl := hs.n
  have hwl := hw.n
  by_cases he : l.length = w.length
  · simp [X18, he]
    have hlg : legal s w l m = match legG s [] w l 0 with | none => false | some n => decide ((n : Int) = m) := by simp [legal, he]
    refine loopX (fun (p : Nat × Nat) vs h => p.1 ≤ w.length ∧ p.2 ≤ p.1 ∧ legG s [] w l 0 = legG s (l.take p.1) (w.drop p.1) (l.drop p.1) p.2 ∧ vs = [PL s, PL w, .undef, .ptr 1 1 0, .undef, I p.2, I p.1, .undef, .undef, .undef, .undef, .undef] ∧ h = [(0, .dead), (1, .var [IL l, I m])]) (fun p => w.length - p.1) (0, 0) ?_ ?_
    · simp
    · rintro ⟨k, n⟩ vs h ⟨h1, h2, h3, rfl, rfl⟩ Q' hK hX hR'
      dsimp only at h1 h2 h3
      by_cases hk : k < w.length
      · have hkl : k < l.length := by omega
        have hw1 : IntKind.i64.wrap ((k : Int) + 1) = ((k + 1 : Nat) : Int) := wrap_ok (by omega) (by omega)
        have hw2 : IntKind.i64.wrap ((n : Int) + 1) = ((n + 1 : Nat) : Int) := wrap_ok (by omega) (by omega)
        have hbk := hb _ (List.getElem_mem hkl)
        have htk : l.take (k + 1) = l.take k ++ [l[k]] := List.take_succ_eq_append_getElem hkl
        rw [List.drop_eq_getElem_cons hk, List.drop_eq_getElem_cons hkl, legG, ← htk] at h3
        by_cases t1 : l[k] = -1
        · rw [if_pos t1] at h3
          simp [hk, hkl, t1, hw1, hw2]
          refine hK (k + 1, n + 1) _ _ (by dsimp only; omega) ?_
          simp
          exact ⟨by omega, by omega, h3⟩
        · rw [if_neg t1] at h3
          by_cases t2 : l[k] < 0
          · rw [if_pos (by simp [bad, t2])] at h3
            simp [hk, hkl, t1, t2]
            refine hR' _ _ ?_
            simp
            refine hR _ _ ?_
            simp [X18, hlg, h3]
          · obtain ⟨j, hj⟩ : ∃ j : Nat, l[k] = j := ⟨l[k].toNat, by omega⟩
            have hwj : IntKind.i64.wrap (j : Int) = j := wrap_ok (by omega) (by omega)
            by_cases t3 : j < s.length
            · have t3' : ¬ s.length ≤ j := by omega
              have hko : (k : Int) ≤ l.length := by omega
              simp [hk, hkl, hj, t3, t3', hko]
              have hH := Has_fn (l.take k) j (by simp; omega)
              rw [show IL (l.take k) = PV.slc (List.take k (List.map I l)) by simp [List.map_take]] at hH
              refine call_of hH ?_
              by_cases t4 : (j : Int) ∈ l.take k
              · rw [if_pos (by simp [bad, hj, t4])] at h3
                simp [t4]
                refine hR' _ _ ?_
                simp
                refine hR _ _ ?_
                simp [X18, hlg, h3]
              · simp [t4, hk, t3, hwj]
                refine call_of (REqP_fn (hs.k _ (List.getElem_mem t3)) (hw.k _ (List.getElem_mem hk))) ?_
                by_cases t5 : s[j] = w[k]
                · rw [if_neg (by simp [bad, hj, t4, t5, t3])] at h3
                  simp [t5, hw1]
                  refine hK (k + 1, n) _ _ (by dsimp only; omega) ?_
                  simp
                  exact ⟨by omega, by omega, h3⟩
                · rw [if_pos (by simp [bad, hj, t4, t5, t3])] at h3
                  simp [t5]
                  refine hR' _ _ ?_
                  simp
                  refine hR _ _ ?_
                  simp [X18, hlg, h3]
            · have t3' : s.length ≤ j := by omega
              rw [if_pos (by simp [bad, hj, t3'])] at h3
              simp [hk, hkl, hj, t3']
              refine hR' _ _ ?_
              simp
              refine hR _ _ ?_
              simp [X18, hlg, h3]
      · rw [List.drop_eq_nil_of_le (by omega), legG_nil] at h3
        simp [hk]
        refine hX _ _ _ ?_
        simp
        refine hR _ _ ?_
        rw [h3] at hlg
        simp [X18, hlg]
  · simp [X18, he]
    refine hR _ _ ?_
    simp [X18, legal, he]
end Go.Proofs.Yteafgpjhgefiiaa.S
