/-
  Chapter 30: lists of plates by their numbers.
-/
import Derived.Test.YteafgpjhgefiiaaSgA
namespace Go.Proofs.Yteafgpjhgefiiaa.S
set_option linter.unusedSimpArgs false
set_option linter.unusedVariables false
set_option linter.unusedSectionVars false
open Go.Proofs.Yteafgpjhgefiiaa.Am
set_option maxHeartbeats 2000000
theorem allE {p : PV → Prop} (l : List Nat) (h : ∀ b, p (plE b)) : ∀ x, x ∈ List.map plE l → p x := fun x hx => by
  obtain ⟨b, _, rfl⟩ := List.mem_map.1 hx; exact h b
theorem nrE (b : Nat) : noRefE (plE b) = true := by simp [isU]
@[simp] theorem nr_map_plE (l : List Nat) : (List.map plE l).all noRefE = true := List.all_eq_true.2 (allE l nrE)
@[simp ↓] theorem nr_mem_plE (l : List Nat) : (∀ x, x ∈ List.map plE l → noRefE x = true) = True := eq_true (allE l nrE)
@[simp ↓] theorem sz_mem_plE (l : List Nat) : (∀ x, x ∈ List.map plE l → (ecells x).length = 4) = True := eq_true (allE l fun _ => rfl)
@[simp] theorem frz_plE : frzE ∘ plE = plC := funext fun b => by simp
abbrev U (n : Int) : PV := .int .u8 n
abbrev BL (l : List Int) : PV := .slc (l.map U)
def kinds (l : List Int) : List Nat := l.map fun x => x.toNat % 6
theorem Plates_fn (l : List Int) (n : Nat) (hb : ∀ x ∈ l, 0 ≤ x ∧ x < 256) (hl : l.length ≤ maxLen) (hn : n ≤ 100) : Am.Fn Try.prog 11 [4] [BL l, I n] (UE (kinds (l.take n))) := by
  refine fn_introX mixed (X := X11) c11 6 (by simp [X11]) fun Q hR hN => ?_
  simp [X11]
  refine loopX (fun (k : Nat) vs h => k ≤ l.length ∧ k ≤ n ∧ ∃ o : List Nat, o = kinds (l.take k) ∧ o.length = k ∧ vs = [BL l, I n, .undef, .own 5 1 k 4 0 k, I k, .undef] ∧ h = [(0, .dead), (0, .dead), (0, .dead), (0, .dead), (0, .dead), (1, .arr 4 0 false (o.map plE))]) (fun k => l.length - k) 0 ?_ ?_
  · simp [kinds]
  · rintro k vs h ⟨h1, h2, o, h3, h4, rfl, rfl⟩ Q hK hX hR'
    by_cases hk : k < l.length
    · by_cases hk2 : k < n
      · have hw : IntKind.i64.wrap ((k : Int) + 1) = ((k + 1 : Nat) : Int) := wrap_ok (by omega) (by omega)
        have hc : (k + 1) * 64 ≤ 140737488355328 := by omega
        have hbk := hb _ (List.getElem_mem hk)
        have e : kinds (l.take (k + 1)) = o ++ [l[k].toNat % 6] := by
          rw [h3, List.take_succ_eq_append_getElem hk]; simp only [kinds, List.map_append, List.map_cons, List.map_nil]
        have hcall := Plate_fn l[k] hbk.1 hbk.2
        generalize l[k].toNat % 6 = p at e hcall
        simp [hk, hk2]
        refine call_of hcall ?_
        simp [hk, hk2, hw, hc, h4, frz_uw]
        refine hK (k + 1) _ _ (by omega) ?_
        simp [h4]
        exact ⟨by omega, by omega, by rw [e]; simp [h4], by rw [e]; simp⟩
      · obtain rfl : k = n := by omega
        simp [hk]
        refine hX _ _ _ ?_
        simp
        refine hR _ _ ?_
        rw [h3] at h4
        simp [X11, h4, h3]
    · obtain rfl : k = l.length := by omega
      simp
      refine hX _ _ _ ?_
      simp
      refine hR _ _ ?_
      rw [h3, List.take_length] at h4
      rw [List.take_of_length_le (show l.length ≤ n by omega)]
      simp [X11, h4, h3]
end Go.Proofs.Yteafgpjhgefiiaa.S
