/-
  Rules: what follows is weaker; loops.
-/
import Derived.Test.YtalgbgeocpbadaaAmY
namespace Go.Proofs.Ytalgbgeocpbadaa.Am
set_option linter.unusedSimpArgs false
set_option linter.unusedVariables false
set_option linter.unusedSectionVars false
open Go.RowKit
section
variable {FN : FNs}
theorem xrun_mono {Q Q' : XSt → Prop} (hq : ∀ st, Q st → Q' st) : ∀ {xs : List XOper} {st : XSt}, xrun FN xs st Q → xrun FN xs st Q'
  | [], st, h => hq _ h
  | x :: xs, st, h => by
    cases hg : gdO st.loc st.vars x.guard with
    | none => simp only [xrun, hg] at h
    | some c =>
      cases c with
      | false => simp only [xrun, hg] at h ⊢; exact xrun_mono hq h
      | true =>
        cases hx : x.op
        case call f args ks al =>
          simp only [xrun, hg, hx] at h ⊢
          obtain ⟨r, h1, h2, h3⟩ := h
          exact ⟨r, h1, h2, xrun_mono hq h3⟩
        case callv f args =>
          simp only [xrun, hg, hx] at h ⊢
          obtain ⟨r, ws, h1, h2⟩ := h
          exact ⟨r, ws, h1, xrun_mono hq h2⟩
        case cally f args =>
          simp only [xrun, hg, hx] at h ⊢
          exact FN.my (fun _ _ _ h1 => ⟨h1.1, xrun_mono hq h1.2⟩) h
        all_goals
          simp only [xrun, hg, hx] at h ⊢
          split at h
          · exact xrun_mono hq h
          · exact h.elim
theorem xthen_mono {K K' : List PV → Heap → Prop} {Q Q' : XPost} (hk : ∀ vs h, K vs h → K' vs h) (hq : ∀ e vs h, Q e vs h → Q' e vs h) : ∀ e vs h, xthen K Q e vs h → xthen K' Q' e vs h := by
  intro e vs h hh
  cases e with
  | normal => exact hk _ _ hh
  | exit id => exact hq _ _ _ hh
  | ret => exact hq _ _ _ hh
theorem xloop_mono {body : XPost → List PV → Heap → Prop} (hb : ∀ {Q Q' : XPost}, (∀ e vs h, Q e vs h → Q' e vs h) → ∀ {vs h}, body Q vs h → body Q' vs h) {Q Q' : XPost} (hq : ∀ e vs h, Q e vs h → Q' e vs h) : ∀ {n : Nat} {vs : List PV} {h : Heap}, xloop body Q n vs h → xloop body Q' n vs h
  | 0, _, _, hh => hh
  | n + 1, vs, h, hh => hb (xthen_mono (fun _ _ => xloop_mono hb hq) hq) hh
theorem xwp_mono : ∀ {c : XCode} {Q Q' : XPost}, (∀ e vs h, Q e vs h → Q' e vs h) → ∀ {vs : List PV} {h : Heap}, xwp FN c Q vs h → xwp FN c Q' vs h := by
  intro c
  induction c with
  | skip => intro Q Q' hq vs h hh; exact hq _ _ _ hh
  | reg xs => intro Q Q' hq vs h hh; exact ⟨hh.1, xrun_mono (fun st => hq _ _ _) hh.2⟩
  | seq a b iha ihb => intro Q Q' hq vs h hh; exact iha (xthen_mono (fun _ _ => ihb hq) hq) hh
  | cond c a b iha ihb =>
    intro Q Q' hq vs h hh
    simp only [xwp] at hh ⊢
    split at hh
    · exact iha hq hh
    · exact ihb hq hh
    · exact hh.elim
  | block id b ih =>
    intro Q Q' hq vs h hh
    refine ih (fun e vs h he => ?_) hh
    cases e with
    | normal => exact hq _ _ _ he
    | ret => exact hq _ _ _ he
    | exit i =>
      simp only [xin] at he ⊢
      split at he
      · rename_i e; rw [if_pos e]; exact hq _ _ _ he
      · rename_i e; rw [if_neg e]; exact hq _ _ _ he
  | loop b ih =>
    intro Q Q' hq vs h hh
    obtain ⟨n, hh⟩ := hh
    exact ⟨n, xloop_mono (body := xwp FN b) (fun hq _ _ hb => ih hq hb) hq hh⟩
  | loopS lv c0 b ih =>
    intro Q Q' hq vs h hh
    obtain ⟨n, hh⟩ := hh
    exact ⟨n, xloop_mono (body := fun Q vs h => settled lv c0 vs h (xwp FN b Q)) (fun hq _ _ hb => ⟨hb.1, ih hq hb.2⟩) hq hh⟩
  | frz l b ih => intro Q Q' hq vs h hh; exact ih hq hh
  | mat v c k sz b ih => intro Q Q' hq vs h hh; exact ih hq hh
  | rfor g ps a b iha ihb => intro Q Q' hq vs h hh; exact FN.mi (fun _ _ h1 => hq _ _ _ h1) hh
  | exit id => intro Q Q' hq vs h hh; exact hq _ _ _ hh
  | ret => intro Q Q' hq vs h hh; exact hq _ _ _ hh
/-- A LOOP whose states are settled: a relation and a measure -/
theorem loopS_rule {σ : Type} (I : σ → List PV → Heap → Prop) (μ : σ → Nat) {lv : List Nat} {c0 : Nat} {b : XCode} {Q : XPost} {vs : List PV} {h : Heap} (s : σ) (hstart : settled lv c0 vs h (I s))
    (hround : ∀ s vs h, I s vs h → xwp FN b (xthen (fun vs h => settled lv c0 vs h fun vs h => ∃ s', I s' vs h ∧ μ s' < μ s) Q) vs h) : xwp FN (.loopS lv c0 b) Q vs h := by
  have key : ∀ n s vs h, μ s < n → settled lv c0 vs h (I s) → xloop (fun Q vs h => settled lv c0 vs h (xwp FN b Q)) Q n vs h := by
    intro n
    induction n with
    | zero => intro s vs h hn; omega
    | succ n ih =>
      intro s vs h hn hs
      refine ⟨hs.1, xwp_mono (xthen_mono (fun vs h hh => ?_) fun _ _ _ => id) (hround s _ _ hs.2)⟩
      obtain ⟨h1, s', h2, h3⟩ := hh
      exact ih s' vs h (by omega) ⟨h1, h2⟩
  exact ⟨μ s + 1, key _ s vs h (by omega) hstart⟩
end
end Go.Proofs.Ytalgbgeocpbadaa.Am
