/-
  A result that is nil may be taken as an array of no elements.
-/
import Derived.Test.YteafgpjhgefiiaaAmO
namespace Go.Proofs.Yteafgpjhgefiiaa.Am
set_option linter.unusedSimpArgs false
set_option linter.unusedVariables false
set_option linter.unusedSectionVars false
open Go.RowKit
section
variable {P : Program} {B : Nat} {Z0 : Nat → Prop} {G : Gh} {h : Heap} {w : World}
def Gh.noR (G : Gh) (k : Nat) : Gh := { G with R := fun key => key.1 ≠ k ∧ G.R key, γ := fun key => if key.1 = k then 0 else G.γ key }
theorem nil_arr (hr : HRep B Z0 G h w) {k sz : Nat} (hh : h[k]? = some (0, .dead)) (hsz : 0 < sz) :
    HRep B Z0 (G.noR k) (h.set k (1, .arr sz 0 false [])) w ∧ Ext G h w (G.noR k) (h.set k (1, .arr sz 0 false [])) w ∧ VRep (G.noR k) (h.set k (1, .arr sz 0 false [])) w D (.slice none 0 0) (.own k 1 0 sz 0 0) := by
  have hk : k < h.length := (List.getElem?_eq_some_iff.1 hh).1
  have hsame : ∀ k' y, k' ≠ k → SameKey G (G.noR k) (k', y) := fun k' y hkk => ⟨rfl, ⟨fun x => x.2, fun x => ⟨hkk, x⟩⟩, by simp [Gh.noR, hkk], rfl⟩
  have x : Ext G h w (G.noR k) (h.set k (1, .arr sz 0 false [])) w := by
    refine ⟨fun _ y => y, fun _ _ => rfl, fun k' gn ob e => ?_⟩
    by_cases hkk : k' = k
    · subst hkk; rw [hh] at e; cases e
      exact ⟨1, _, List.getElem?_set_self hk, by omega, fun e => by omega⟩
    · exact ⟨gn, ob, by rw [List.getElem?_set_ne (Ne.symm hkk)]; exact e, Nat.le_refl _, fun _ => Keep.refl k' ob (hsame _ _ hkk) fun i j => hsame _ _ hkk⟩
  refine ⟨hr.update k 1 _ hk x (fun k' y hkk => .inl (hsame k' y hkk)) (fun _ _ _ _ => rfl) (Nat.le_refl _) (fun b hb => hr.zb b hb) (fun b hb => .inl hb) (fun _ _ _ _ hn => hn) (fun y hR => absurd rfl hR.1) (fun _ _ _ e => by cases e) ?_, x, ?_⟩
  · unfold ORep
    exact ⟨hsz, by simp, by simp [Gh.noR, root], fun hR => absurd rfl hR.1, fun _ => rfl⟩
  · unfold D VRep
    refine ⟨none, 0, rfl, Nat.le_refl _, Nat.zero_le _, .inl ⟨rfl, rfl⟩, 1, _, List.getElem?_set_self hk, Nat.le_refl _, fun _ sz' ver fr es e => ?_⟩
    cases e
    exact ⟨by simp, fun _ => ⟨by omega, fun hR => absurd rfl hR.1, fun _ => ⟨rfl, rfl⟩⟩⟩
end
section
variable {P : Program}
theorem Fn_nil {f : FuncId} {sz : Nat} {args : List PV} (hsz : 0 < sz) (h : Fn P f [sz] args .nils) : Fn P f [sz] args (.uslc []) := by
  refine ⟨h.1, fun w Z vargs hz ha => ?_⟩
  refine (h.2 w Z vargs hz ha).mono fun e w' hh => ?_
  obtain ⟨v, G, e1, e2, e3, e4⟩ := hh
  have hr0 : resH [sz] .nils = [(0, .dead)] := rfl
  have hr1 : resH [sz] (.uslc []) = [(1, .arr sz 0 false [])] := rfl
  rw [hr0] at e3 e4
  obtain ⟨n1, n2, n3⟩ := nil_arr (k := 0) e3 rfl hsz
  have hv : v = .slice none 0 0 := rep_nils e4
  refine ⟨v, G.noR 0, e1, e2, by rw [hr1]; exact n1, ?_⟩
  rw [hr1, hv]; exact n3
theorem Fn_nil2 {f : FuncId} {sz s1 : Nat} {args : List PV} {k : IntKind} {n : Int} (hsz : 0 < sz) (h : Fn P f [sz, s1] args (.agg [.nils, .int k n])) : Fn P f [sz, s1] args (.agg [.uslc [], .int k n]) := by
  refine ⟨h.1, fun w Z vargs hz ha => ?_⟩
  refine (h.2 w Z vargs hz ha).mono fun e w' hh => ?_
  obtain ⟨v, G, e1, e2, e3, e4⟩ := hh
  have hr0 : resH [sz, s1] (.agg [.nils, .int k n]) = [(0, .dead), (0, .dead)] := rfl
  have hr1 : resH [sz, s1] (.agg [.uslc [], .int k n]) = [(1, .arr sz 0 false []), (0, .dead)] := rfl
  rw [hr0] at e3 e4
  obtain ⟨n1, n2, n3⟩ := nil_arr (k := 0) e3 rfl hsz
  obtain ⟨vs, rfl, h1, h2⟩ := rep_agg (show VRep G [(0, .dead), (0, .dead)] w' D v (.agg [.nils, .int k n]) from e4)
  refine ⟨.agg vs, G.noR 0, e1, e2, by rw [hr1]; exact n1, ?_⟩
  rw [hr1]
  refine mk_agg (cs := [.own 0 1 0 sz 0 0, .int k n]) ⟨h1, fun i c hc => ?_⟩
  match i, hc with
  | 0, hc =>
    cases hc
    obtain ⟨u, q1, q2⟩ := h2 0 _ rfl
    have hu : u = .slice none 0 0 := rep_nils q2
    exact ⟨u, q1, by rw [hu]; exact n3⟩
  | 1, hc =>
    cases hc
    obtain ⟨u, q1, q2⟩ := h2 1 _ rfl
    exact ⟨u, q1, q2.ext n2⟩
end
end Go.Proofs.Yteafgpjhgefiiaa.Am
