/-
  Chapter 18: facts of broken clean cells.
-/
import Derived.Test.YtnlapjkfbodbkaaLqP
namespace Go.Proofs.Ytnlapjkfbodbkaa.L
set_option linter.unusedSimpArgs false
set_option linter.unusedVariables false
set_option linter.unusedSectionVars false
open Go.Proofs.Ytnlapjkfbodbkaa.Am
theorem breakR_clean (mk : List PV → PV) {l : Word} {W a b : Nat} (hc : (clean l).2 = true) (hW : 24 ≤ W ∧ W ≤ 60) (ha : a ≤ 16) (hb : b ≤ 16) :
    breakR mk l W a b = if 0 ≤ longG ((W : Int) - max (a : Int) b) 0 (words l) then errR mk (longG ((W : Int) - max (a : Int) b) 0 (words l)) 181 else mk [.uslc ((brk W a b (words l)).map UCL), I 0, I 0] := by
  have hok : okI a b = true := by simp [okI]; omega
  rw [breakR, if_neg (by simp [hok]; omega), hc, if_neg (by simp)]
  rfl
/-- the groups of words -/
theorem brk_groups {l : Word} {W a b : Nat} (hc : (clean l).2 = true) : ∃ G : List (List Word), G ≠ [] ∧ (∀ g ∈ G, g ≠ [] ∧ ∀ w ∈ g, wd w) ∧ G.flatten = words l ∧ brk W a b (words l) = linesOf a b G ∧
    (longG ((W : Int) - max (a : Int) b) 0 (words l) < 0 → okG W b a G) := by
  have hw := clean_words hc
  have hne : words l ≠ [] := wordsG_ne l []
  cases hws : words l with
  | nil => exact absurd hws hne
  | cons w r =>
    rw [hws] at hw
    have hfl := grp_flat W b r (a + (ic [w]).length) [w]
    refine ⟨grp W b (a + (ic [w]).length) [w] r, grp_nil W b r _ _, fun g hg => ⟨grp_ne W b r _ [w] (by simp) g hg, fun v hv => hw v ?_⟩, hfl, ?_, fun hlong => ?_⟩
    · have : v ∈ (grp W b (a + (ic [w]).length) [w] r).flatten := List.mem_flatten.2 ⟨g, hg, hv⟩
      rw [hfl] at this; simpa using this
    · have := brk_grp W b r a [w] (by simp)
      simpa [brk, ic] using this
    · have hf := longG_neg (by omega) hlong
      have hw0 := hf w (by simp)
      exact grp_ok W b r a [w] (by simp) (by simp [ic]; omega) (fun x hx => by have := hf x (by simp [hx]); omega)
theorem join_brk {l : Word} {W a b : Nat} (hc : (clean l).2 = true) : joinG a b 0 [] (brk W a b (words l)) = (some l, 0) ∧ brk W a b (words l) ≠ [] := by
  obtain ⟨G, h1, h2, h3, h4, _⟩ := brk_groups (W := W) (a := a) (b := b) hc
  rw [h4, join_lines a b h1 h2, h3, ic_words]
  refine ⟨rfl, ?_⟩
  cases G with
  | nil => exact absurd rfl h1
  | cons => simp [linesOf]
theorem frame_nat (w0 w1 w2 : Int) (h0 : 0 ≤ w0 ∧ w0 ≤ 255) (h1 : 0 ≤ w1 ∧ w1 ≤ 255) (h2 : 0 ≤ w2 ∧ w2 ≤ 255) :
    ∃ W a b : Nat, 24 ≤ W ∧ W ≤ 35 ∧ a ≤ 8 ∧ b ≤ 8 ∧ Am.Fn Try.prog 21 [0, 0, 0] [.agg [U w0, U w1, U w2]] (.tup [I W, .agg [I a, I b]]) := by
  have := Frame_fn w0 w1 w2 h0 h1 h2
  refine ⟨(24 + w0 % 12).toNat, (w1 % 9).toNat, (w2 % 9).toNat, by omega, by omega, by omega, by omega, ?_⟩
  rw [show (((24 + w0 % 12).toNat : Nat) : Int) = 24 + w0 % 12 by omega, show (((w1 % 9).toNat : Nat) : Int) = w1 % 9 by omega, show (((w2 % 9).toNat : Nat) : Int) = w2 % 9 by omega]
  exact this
end Go.Proofs.Ytnlapjkfbodbkaa.L
