/-
  Chapter 18's Join, for chapter 20.
-/
import Derived.Test.YtfpkcjjgooigbaaQLmA
import Derived.Test.YtfpkcjjgooigbaaQLhX
namespace Go.Proofs.Ytfpkcjjgooigbaa.L
set_option linter.unusedSimpArgs false
set_option linter.unusedVariables false
set_option linter.unusedSectionVars false
open Go.Proofs.Ytfpkcjjgooigbaa.Am
set_option maxHeartbeats 8000000
theorem indent_le : ∀ l : Word, indent l ≤ l.length
  | [] => Nat.le_refl _
  | c :: r => by
    have := indent_le r
    unfold indent; split <;> simp <;> omega
def joinR (f : Word → PV) (l : List Word) (a b : Nat) : PV := if l = [] then .tup [.nils, I 0, I 180] else match joinG a b 0 [] l with
  | (some w, _) => .tup [f w, I 0, I 0]
  | (none, k) => .tup [.nils, I k, I 180]
theorem joinP_fn (l : List Word) (a b : Nat) (ha : a ≤ 16) (hb : b ≤ 16) (hl : l.length ≤ 1000) (hr : ∀ r ∈ l, r.length ≤ 1000) : Am.Fn Try.prog 50 [1, 0, 0] [CLL l, .agg [I a, I b]] (joinR UCL l a b) := by
  refine fn_introX mixed (X := X50) c50 6 (by simp [X50]) fun Q hR hN => ?_
  have hok : okI a b = true := by simp [okI]; omega
  simp [X50]
  refine call_of (allowed_fn a b) ?_
  rw [hok]
  by_cases hl0 : l = []
  · subst hl0
    simp
    refine hR _ _ ?_
    simp [X50, joinR]
  · have hl1 : ¬ l.length = 0 := by simpa using hl0
    simp [hl0, hl1]
    refine loopX (fun (s : Nat × Word) vs h => s.1 ≤ l.length ∧ s.2.length ≤ 1001 * s.1 ∧ joinG a b 0 [] l = joinG a b s.1 s.2 (l.drop s.1) ∧
      ((s.1 = 0 ∧ s.2 = [] ∧ vs = [.undef, .undef, .eptr 4 1 2 1 0 0, .undef, .undef, .undef, .nils, .undef, .undef, .undef, .undef, .undef, .undef, CLL l, I l.length, I s.1, .undef, .undef, .undef, .undef] ∧ h = List.replicate 4 (0, .dead) ++ [(1, .arr 1 0 false [I a, I b]), (0, .dead)]) ∨
       (s.1 ≠ 0 ∧ vs = [.undef, .undef, .eptr 4 1 2 1 0 0, .undef, .undef, .undef, .own 5 1 s.2.length 1 0 s.2.length, .undef, .undef, .undef, .undef, .undef, .undef, CLL l, I l.length, I s.1, .undef, .undef, .undef, .undef] ∧ h = List.replicate 4 (0, .dead) ++ [(1, .arr 1 0 false [I a, I b]), (1, .arr 1 0 false (s.2.map U))]))) (fun s => l.length - s.1) (0, []) ?_ ?_
    · simp
    · rintro ⟨k, out⟩ vs h ⟨h1, h2, h3, hd⟩ Q hK hX hR'
      dsimp only at h1 h2 h3 hd
      by_cases hk : k < l.length
      · have hw : IntKind.i64.wrap ((k : Int) + 1) = (k : Int) + 1 := wrap_ok (by omega) (by omega)
        have hrl' := hr _ (List.getElem_mem hk)
        have hrl : l[k].length ≤ maxLen := by unfold maxLen; omega
        rw [List.drop_eq_getElem_cons hk, joinG] at h3
        rcases hd with ⟨hk0, ho, rfl, rfl⟩ | ⟨hk0, rfl, rfl⟩
        · have h1k : (if (1 : Int) < (k : Int) then (1 : Int) else (k : Int)) = 0 := by split <;> omega
          have hkp : ¬ 0 < k := by omega
          subst ho
          simp [hk, hkp, h1k]
          refine call_of (indentP_fn _ hrl) ?_
          by_cases t1 : indent l[k] = a
          · rw [if_neg (by rw [if_pos hk0]; simp [t1])] at h3
            have hle : a ≤ l[k].length := by rw [← t1]; exact indent_le _
            have hle' : (a : Int) ≤ l[k].length := by omega
            obtain ⟨x, hx, hxl⟩ : ∃ x : Word, l[k].drop a = x ∧ x.length + a = l[k].length := ⟨_, rfl, by simp; omega⟩
            have ex : List.drop a (List.map U l[k]) = List.map U x := by rw [← hx, List.map_drop]
            have ex2 : List.take (l[k].length - a) (List.map U x) = List.map U x := List.take_of_length_le (by simp; omega)
            simp [hk, hkp, h1k, t1, hle, hle', ex, ex2]
            refine call_of (cleanP_fn x (by unfold maxLen; omega)) ?_
            cases hcl : (clean x).2 with
            | false =>
              rw [if_pos (by rw [if_pos hk0, hx]; exact hcl)] at h3
              simp
              refine hR' _ _ ?_
              simp
              refine hR _ _ ?_
              simp [X50, joinR, hl0, h3]
            | true =>
              rw [if_neg (by rw [if_pos hk0, hx, hcl]; simp), if_pos hk0, hx] at h3
              have b1 : (0 + 1) * 1 ≤ 140737488355328 := by omega
              have b2 : x.length ≤ 140737488355328 := by omega
              have b3 : 0 + 1 ≤ 140737488355328 := by omega
              have b4 : 0 + x.length ≤ 140737488355328 := by omega
              have b5 : 0 + 1 + x.length ≤ 140737488355328 := by omega
              simp [hk, hw, hkp, h1k, hle, hle', ex, ex2, b1, b2, b3, b4, b5]
              refine hK (k + 1, x) _ _ (by dsimp only; omega) ?_
              simp [h3]
              omega
          · rw [if_pos (by rw [if_pos hk0]; exact t1)] at h3
            simp [t1]
            refine hR' _ _ ?_
            simp
            refine hR _ _ ?_
            simp [X50, joinR, hl0, h3]
        · have h1k : (if (1 : Int) < (k : Int) then (1 : Int) else (k : Int)) = 1 := by split <;> omega
          have hkp : 0 < k := by omega
          simp [hk, hkp, h1k]
          refine call_of (indentP_fn _ hrl) ?_
          by_cases t1 : indent l[k] = b
          · rw [if_neg (by rw [if_neg hk0]; simp [t1])] at h3
            have hle : b ≤ l[k].length := by rw [← t1]; exact indent_le _
            have hle' : (b : Int) ≤ l[k].length := by omega
            obtain ⟨x, hx, hxl⟩ : ∃ x : Word, l[k].drop b = x ∧ x.length + b = l[k].length := ⟨_, rfl, by simp; omega⟩
            have ex : List.drop b (List.map U l[k]) = List.map U x := by rw [← hx, List.map_drop]
            have ex2 : List.take (l[k].length - b) (List.map U x) = List.map U x := List.take_of_length_le (by simp; omega)
            simp [hk, hkp, h1k, t1, hle, hle', ex, ex2]
            refine call_of (cleanP_fn x (by unfold maxLen; omega)) ?_
            cases hcl : (clean x).2 with
            | false =>
              rw [if_pos (by rw [if_neg hk0, hx]; exact hcl)] at h3
              simp
              refine hR' _ _ ?_
              simp
              refine hR _ _ ?_
              simp [X50, joinR, hl0, h3]
            | true =>
              rw [if_neg (by rw [if_neg hk0, hx, hcl]; simp), if_neg hk0, hx] at h3
              have b1 : (out.length + 1) * 1 ≤ 140737488355328 := by omega
              have b2 : x.length ≤ 140737488355328 := by omega
              have b3 : out.length + 1 ≤ 140737488355328 := by omega
              have b4 : out.length + x.length ≤ 140737488355328 := by omega
              have b5 : out.length + 1 + x.length ≤ 140737488355328 := by omega
              simp [hk, hw, hkp, h1k, hle, hle', ex, ex2, b1, b2, b3, b4, b5]
              refine hK (k + 1, out ++ 0 :: x) _ _ (by dsimp only; omega) ?_
              simp [h3]
              omega
          · rw [if_pos (by rw [if_neg hk0]; exact t1)] at h3
            simp [t1]
            refine hR' _ _ ?_
            simp
            refine hR _ _ ?_
            simp [X50, joinR, hl0, h3]
      · rw [List.drop_eq_nil_of_le (by omega), joinG] at h3
        rcases hd with ⟨hk0, ho, rfl, rfl⟩ | ⟨hk0, rfl, rfl⟩
        · exact absurd hk0 (by omega)
        · simp [hk]
          refine hX _ _ _ ?_
          simp
          refine hR _ _ ?_
          simp [X50, joinR, hl0, h3]
end Go.Proofs.Ytfpkcjjgooigbaa.L
