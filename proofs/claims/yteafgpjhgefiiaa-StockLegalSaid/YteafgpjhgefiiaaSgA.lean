/-
  Chapter 30: lists of plates that are made.
-/
import Derived.Test.YteafgpjhgefiiaaSfA
namespace Go.Proofs.Yteafgpjhgefiiaa.S
set_option linter.unusedSimpArgs false
set_option linter.unusedVariables false
set_option linter.unusedSectionVars false
open Go.Proofs.Yteafgpjhgefiiaa.Am
set_option maxHeartbeats 1000000
theorem allC {p : PV → Prop} (l : List Nat) (h : ∀ b, p (plC b)) : ∀ x, x ∈ List.map plC l → p x := fun x hx => by
  obtain ⟨b, _, rfl⟩ := List.mem_map.1 hx; exact h b
theorem nrC (b : Nat) : noRefE (plC b) = true := by simp
@[simp] theorem nr_map_plC (l : List Nat) : (List.map plC l).all noRefE = true := List.all_eq_true.2 (allC l nrC)
@[simp ↓] theorem nr_mem_plC (l : List Nat) : (∀ x, x ∈ List.map plC l → noRefE x = true) = True := eq_true (allC l nrC)
@[simp ↓] theorem sz_mem_plC (l : List Nat) : (∀ x, x ∈ List.map plC l → (ecells x).length = 4) = True := eq_true (allC l fun _ => rfl)
@[simp ↓] theorem pu_mem_plC (l : List Nat) : (∀ x, x ∈ List.map plC l → ∀ y, y ∈ ecells x → pureC y = true) = True := eq_true (allC l fun b y hy => by simp at hy; rcases hy with rfl | rfl | rfl | rfl <;> rfl)
@[simp] theorem frz_plC : frzE ∘ plC = plC := funext fun b => by simp
def turned (a : List Nat) (n : Nat) : List Nat := (List.range a.length).map fun i => a.getD ((i + n) % a.length) 0
theorem Turned_fn (a : List Nat) (n : Int) (ha : Pl a) (h0 : 0 ≤ n) (hn : n < 256) : Am.Fn Try.prog 22 [4] [PL a, .int .u8 n] (UL (turned a n.toNat)) := by
  refine fn_introX mixed (X := X22) c22 4 (by simp [X22]) fun Q hR hN => ?_
  obtain ⟨m, rfl⟩ : ∃ m : Nat, n = m := ⟨n.toNat, by omega⟩
  have hm : IntKind.i64.wrap (m : Int) = m := wrap_ok (by omega) (by omega)
  simp [X22]
  refine loopX (fun (k : Nat) vs h => k ≤ a.length ∧ ∃ o : List Nat, o.length = k ∧ o = (turned a m).take k ∧ vs = [PL a, .int .u8 m, .undef, .own 3 1 k 4 0 k, I k, .undef] ∧ h = [(0, .dead), (0, .dead), (0, .dead), (1, .arr 4 0 false (o.map plC))]) (fun k => a.length - k) 0 ?_ ?_
  · simp
  · rintro k vs h ⟨h1, o, h2, h3, rfl, rfl⟩ Q hK hX hR'
    have ht : (turned a m).length = a.length := by simp [turned]
    have hl := ha.n
    by_cases hk : k < a.length
    · have hw : IntKind.i64.wrap ((k : Int) + 1) = ((k + 1 : Nat) : Int) := wrap_ok (by omega) (by omega)
      have hw1 : IntKind.i64.wrap ((k : Int) + m) = (k : Int) + m := wrap_ok (by omega) (by omega)
      have hj : (k + m) % a.length < a.length := Nat.mod_lt _ (by omega)
      have e : (turned a m).take (k + 1) = o ++ [a.getD ((k + m) % a.length) 0] := by
        rw [List.take_succ_eq_append_getElem (by omega), ← h3]
        congr 1
        simp [turned]
      have hw2 : ((k : Int) + m).tmod (a.length : Int) = (((k + m) % a.length : Nat) : Int) := by rw [Int.tmod_eq_emod_of_nonneg (by omega)]; push_cast; rfl
      generalize (k + m) % a.length = j at hj hw2 e
      have hz : a ≠ [] := by rintro rfl; simp at hk
      have hg : a.getD j 0 = a[j] := by simp [List.getD, hj]
      have hs : IntKind.i64.wrap (j : Int) = j := wrap_ok (by omega) (by omega)
      have hc : (k + 1) * 64 ≤ 140737488355328 := by omega
      simp [hk, hm, hw, hw1, hw2, hz, hj, hs, h2, hc]
      refine hK (k + 1) _ _ (by omega) ?_
      simp [h2]
      refine ⟨by omega, o ++ [a[j]], by simp [h2], ?_, by simp⟩
      rw [e, hg]
    · obtain rfl : k = a.length := by omega
      simp
      refine hX _ _ _ ?_
      simp
      refine hR _ _ ?_
      simp [X22]
      rw [if_pos h2, h3, List.take_of_length_le (by omega)]
end Go.Proofs.Yteafgpjhgefiiaa.S
