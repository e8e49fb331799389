/-
  The plain machine and that it is sound, part 4.
-/
import Derived.Test.YtgdcogoacnghkaaMg3
import Derived.RangeFuncRecord
import Derived.WalkKit
import Derived.ProofKit
import Derived.OpenShut
import Derived.ChangeOld
import Derived.Below
import Derived.Carry
import Derived.Deep.Slices
/-
  Arrays that are frozen on the way; code in which that is done.
-/
namespace Go.Proofs.Ytgdcogoacnghkaa.Am
set_option linter.unusedSimpArgs false
set_option linter.unusedVariables false
set_option linter.unusedSectionVars false
open Go.RowKit
section
variable {P : Program} {B : Nat} {Z0 : Nat → Prop} {W0 : Anch B} {vs : List Nat} {N : Nat}
theorem own_slc2 {G : Gh} {h : Heap} {w : World} (hr : HRep B Z0 G h w) {u : Value} {k g' s' ver : Nat} {es : List PV} (hh : h[k]? = some (g', .arr s' ver true es)) (hp : es.all noRefE = true) (hv : VRep G h w D u (.own k g' es.length s' 0 es.length)) : VRep G h w D u (.slc (es.map frzE)) := by
  have := own_slc hr (Z' := G.Z) (fun _ x => x) hh rfl (by omega) hp (hr.fz k g' _ hh rfl) hv
  rw [List.drop_zero, List.take_length] at this
  exact mk_slc this
theorem frzR_rep {G : Gh} {h : Heap} {w : World} (hr : HRep B Z0 G h w) {u : Value} {c : PV} (ho : one c = true) (hv : VRep G h w D u c) : one (frzR h c) = true ∧ VRep G h w D u (frzR h c) := by
  by_cases hc : ∃ k g gl s o l, c = .own k g gl s o l
  · obtain ⟨k, g, gl, s, o, l, rfl⟩ := hc
    simp only [frzR]
    split
    · rename_i g' s' ver fr es hlk
      split
      · rename_i hcd
        obtain ⟨rfl, rfl, rfl, rfl, rfl, rfl, hp⟩ := hcd
        have hh : h[k]? = some (g', .arr s' ver true es) := by
          rw [List.getD_eq_getElem?_getD] at hlk
          cases hx : h[k]? with
          | none => rw [hx] at hlk; cases hlk
          | some r => rw [hx] at hlk; simp at hlk; rw [hlk]
        exact ⟨rfl, own_slc2 hr hh hp hv⟩
      · exact ⟨ho, hv⟩
    · exact ⟨ho, hv⟩
  · have e : frzR h c = c := by
      cases c <;> first | rfl | exact absurd ⟨_, _, _, _, _, _, rfl⟩ hc
    rw [e]; exact ⟨ho, hv⟩
theorem frzR_any {G : Gh} {h : Heap} {w : World} (hr : HRep B Z0 G h w) {u : Value} {c : PV} (hv : VRep G h w D u c) : VRep G h w D u (frzR h c) := by
  by_cases hc : ∃ k g gl s o l, c = .own k g gl s o l
  · obtain ⟨k, g, gl, s, o, l, rfl⟩ := hc
    exact (frzR_rep hr rfl hv).2
  · have e : frzR h c = c := by
      cases c <;> first | rfl | exact absurd ⟨_, _, _, _, _, _, rfl⟩ hc
    rw [e]; exact hv
theorem frz_var {G : Gh} {h : Heap} {w : World} (hr : HRep B Z0 G h w) {k g : Nat} {cs : List PV} (hh : h[k]? = some (g, .var cs)) :
    HRep B Z0 G (h.set k (g, .var (cs.map (frzR h)))) w ∧ Ext G h w G (h.set k (g, .var (cs.map (frzR h)))) w := by
  have hk : k < h.length := (List.getElem?_eq_some_iff.1 hh).1
  have hob := hr.ob k g _ hh
  unfold ORep at hob
  obtain ⟨hR, us, T, hb, hu⟩ := hob
  have x : Ext G h w G (h.set k (g, .var (cs.map (frzR h)))) w := by
    refine ⟨fun _ y => y, fun _ _ => rfl, fun k' gn ob e => ?_⟩
    by_cases hkk : k' = k
    · subst hkk; rw [hh] at e; cases e
      refine ⟨g, .var _, List.getElem?_set_self hk, Nat.le_refl _, fun _ => ⟨fun _ _ _ _ e' => ?_, fun cs'' e' => ⟨cs, rfl, SameKey.refl _ _⟩, fun _ _ _ e' => (by cases e')⟩⟩
      cases e'
    · exact ⟨gn, ob, by rw [List.getElem?_set_ne (Ne.symm hkk)]; exact e, Nat.le_refl _, fun _ => Keep.refl k' ob (SameKey.refl _ _) fun i j => SameKey.refl _ _⟩
  refine ⟨hr.update k g _ hk x (fun _ _ _ => .inl (SameKey.refl _ _)) (fun _ _ _ _ => rfl) (Nat.le_refl _) (fun b hb' => hr.zb b hb') (fun b hb => .inl hb) (fun _ _ _ _ hn => hn) (fun y hR' => ?_) (fun e => by cases e) ?_, x⟩
  · obtain ⟨b1, b2⟩ := hr.lv _ hR'
    exact ⟨b1, b2, fun _ => hr.nz k g _ hh rfl y hR', fun y' hR2 e => congrArg Prod.snd (hr.inj _ _ hR' hR2 e), fun k' y' hkk hR2 e => hkk (congrArg Prod.fst (hr.inj _ _ hR' hR2 e)).symm⟩
  · unfold ORep
    refine ⟨hR, us, T, hb, by rw [List.length_map]; exact hu.1, fun i c hc => ?_⟩
    rw [List.getElem?_map] at hc
    obtain ⟨c0, hc0, rfl⟩ := Option.map_eq_some_iff.1 hc
    obtain ⟨v, h1, h2⟩ := hu.2 i c0 hc0
    obtain ⟨h3, h4⟩ := frzR_rep hr h2.1 h2.2
    exact ⟨v, h1, h3, h4.ext x⟩
/-! ### an array that lies in an element is taken out: it stands for itself as long as it is not put in again -/
theorem any_cell {G : Gh} {h : Heap} {w : World} (hr : HRep B Z0 G h w) {k g ver i : Nat} {es ns : List PV} (hh : h[k]? = some (g, .arr 1 ver false es)) (he : es[i]? = some (.uslc ns)) :
    HRep B Z0 (G.drp k i) (h.set k (g, .arr 1 (ver + 1) false (es.set i .any))) w ∧ Ext G h w (G.drp k i) (h.set k (g, .arr 1 (ver + 1) false (es.set i .any))) w := by
  have hk : k < h.length := (List.getElem?_eq_some_iff.1 hh).1
  have hob := hr.ob k g _ hh
  unfold ORep at hob
  obtain ⟨o1, o2, o3, o4, o5⟩ := hob
  have x : Ext G h w (G.drp k i) (h.set k (g, .arr 1 (ver + 1) false (es.set i .any))) w := by
    refine ⟨fun _ y => y, fun _ _ => rfl, fun k' gn ob e => ?_⟩
    by_cases hkk : k' = k
    · subst hkk; rw [hh] at e; cases e
      refine ⟨g, _, List.getElem?_set_self hk, Nat.le_refl _, fun _ => ⟨fun sz' v' fr' es' e' => ?_, fun cs' e' => (by cases e'), fun _ _ _ e' => (by cases e')⟩⟩
      cases e'
      exact ⟨ver, false, es, rfl, by simp, by omega, fun _ => drp_same (by simp), fun e => by omega⟩
    · exact ⟨gn, ob, by rw [List.getElem?_set_ne (Ne.symm hkk)]; exact e, Nat.le_refl _, fun _ => Keep.refl k' ob (drp_same (by simp)) fun a b => drp_same fun e => hkk (congrArg Prod.fst e)⟩
  refine ⟨hr.update k g _ hk x (fun k' y hkk => .inl (drp_same fun e => hkk (congrArg Prod.fst e))) (fun _ _ _ _ => rfl) (Nat.le_refl _) (fun b hb => hr.zb b hb) (fun b hb => .inl hb) (fun _ _ _ _ hn => hn) (fun y hR => ?_) (fun e => by cases e) ?_, x⟩
  · obtain ⟨b1, b2⟩ := hr.lv _ hR.2
    exact ⟨b1, b2, fun _ => hr.nz k g _ hh rfl y hR.2, fun y' hR2 e => congrArg Prod.snd (hr.inj _ _ hR.2 hR2.2 e), fun k' y' hkk hR2 e => hkk (congrArg Prod.fst (hr.inj _ _ hR.2 hR2.2 e)).symm⟩
  · unfold ORep
    refine ⟨o1, by rw [List.length_set]; exact o2, o3, fun hR => ?_, fun hn => ?_⟩
    · obtain ⟨us, T, o6, o7, o8⟩ := o4 hR.2
      refine ⟨us, T, o6, o7, fun i' e hi' => ?_⟩
      by_cases hii : i' = i
      · subst hii
        rw [List.getElem?_set_self (List.getElem?_eq_some_iff.1 he).1] at hi'
        cases hi'
        refine ⟨rfl, fun j c hc => ?_⟩
        cases j with
        | succ j => simp [ecells] at hc
        | zero =>
          simp [ecells] at hc; subst hc
          obtain ⟨u, u1, u2⟩ := (o8 i' _ he).2 0 (.uslc ns) rfl
          refine ⟨u, u1, ?_⟩
          unfold CRep
          refine ⟨rfl, ?_⟩
          unfold CRep NRep at u2
          by_cases hRn : G.R (nest k i' 0)
          · obtain ⟨_, _, _, _, rfl, _⟩ := u2.1 hRn
            unfold D VRep; exact ⟨rfl, rfl⟩
          · obtain ⟨rfl, _⟩ := u2.2 hRn
            unfold D VRep; exact ⟨rfl, rfl⟩
      · rw [List.getElem?_set_ne (Ne.symm hii)] at hi'
        obtain ⟨o9, o10⟩ := o8 i' e hi'
        refine ⟨o9, fun j c hc => ?_⟩
        obtain ⟨u, u1, u2⟩ := o10 j c hc
        exact ⟨u, u1, u2.ext x (drp_same fun e => hii (by simpa using e : i' = i ∧ j = 0).1) fun _ => rfl⟩
    · have := o5 fun y => hn ⟨by simp, y⟩
      rw [this]; rfl
/-- a cell of an array is taken as something else -/
theorem arr_cell {G : Gh} {h : Heap} {w : World} (hr : HRep B Z0 G h w) {k g ver i : Nat} {es : List PV} {c' : PV} (hh : h[k]? = some (g, .arr 1 ver false es)) (he : es[i]? = some .any) (ho : one c' = true)
    (hc : ∀ us T u, w.heap[G.β (root k)]? = some (.cells us T (0, 0)) → us[i]? = some u → VRep G h w D u c') :
    HRep B Z0 G (h.set k (g, .arr 1 ver false (es.set i c'))) w ∧ Ext G h w G (h.set k (g, .arr 1 ver false (es.set i c'))) w := by
  have hk : k < h.length := (List.getElem?_eq_some_iff.1 hh).1
  have hob := hr.ob k g _ hh
  unfold ORep at hob
  obtain ⟨o1, o2, o3, o4, o5⟩ := hob
  have hec : ecells c' = [c'] := by cases c' <;> first | rfl | (simp [one] at ho)
  have hnu : ∀ ns, c' ≠ .uslc ns := fun ns e => by subst e; simp [one] at ho
  have x : Ext G h w G (h.set k (g, .arr 1 ver false (es.set i c'))) w := by
    refine ⟨fun _ y => y, fun _ _ => rfl, fun k' gn ob e => ?_⟩
    by_cases hkk : k' = k
    · subst hkk; rw [hh] at e; cases e
      refine ⟨g, _, List.getElem?_set_self hk, Nat.le_refl _, fun _ => ⟨fun sz' v' fr' es' e' => ?_, fun cs' e' => (by cases e'), fun _ _ _ e' => (by cases e')⟩⟩
      cases e'
      refine ⟨ver, false, es, rfl, by simp, Nat.le_refl _, fun _ => SameKey.refl _ _, fun _ a b ns hcn => ?_⟩
      unfold cellAt at hcn ⊢
      by_cases hai : a = i
      · subst hai
        rw [he] at hcn
        cases b <;> simp [ecells] at hcn
      · rw [List.getElem?_set_ne (Ne.symm hai)]
        exact ⟨ns, hcn, rfl, SameKey.refl _ _⟩
    · exact ⟨gn, ob, by rw [List.getElem?_set_ne (Ne.symm hkk)]; exact e, Nat.le_refl _, fun _ => Keep.refl k' ob (SameKey.refl _ _) fun a b => SameKey.refl _ _⟩
  refine ⟨hr.update k g _ hk x (fun k' y hkk => .inl (SameKey.refl _ _)) (fun _ _ _ _ => rfl) (Nat.le_refl _) (fun b hb => hr.zb b hb) (fun b hb => .inl hb) (fun _ _ _ _ hn => hn) (fun y hR => ?_) (fun e => by cases e) ?_, x⟩
  · obtain ⟨b1, b2⟩ := hr.lv _ hR
    exact ⟨b1, b2, fun _ => hr.nz k g _ hh rfl y hR, fun y' hR2 e => congrArg Prod.snd (hr.inj _ _ hR hR2 e), fun k' y' hkk hR2 e => hkk (congrArg Prod.fst (hr.inj _ _ hR hR2 e)).symm⟩
  · unfold ORep
    refine ⟨o1, by rw [List.length_set]; exact o2, o3, fun hR => ?_, fun hn => by rw [o5 hn]; rfl⟩
    obtain ⟨us, T, o6, o7, o8⟩ := o4 hR
    refine ⟨us, T, o6, o7, fun i' e hi' => ?_⟩
    by_cases hii : i' = i
    · subst hii
      rw [List.getElem?_set_self (List.getElem?_eq_some_iff.1 he).1] at hi'
      cases hi'
      rw [hec]
      refine ⟨rfl, fun j c hc' => ?_⟩
      cases j with
      | succ j => simp at hc'
      | zero =>
        simp at hc'; subst hc'
        obtain ⟨u, u1, _⟩ := (o8 i' _ he).2 0 .any rfl
        refine ⟨u, u1, ?_⟩
        have hv := (hc us T u o6 (by simpa using u1)).ext x
        clear hnu
        revert ho hv
        cases c' <;> intro ho hv <;> first | (simp [one] at ho; done) | (unfold CRep; exact ⟨ho, hv⟩)
    · rw [List.getElem?_set_ne (Ne.symm hii)] at hi'
      obtain ⟨o9, o10⟩ := o8 i' e hi'
      refine ⟨o9, fun j c hc' => ?_⟩
      obtain ⟨u, u1, u2⟩ := o10 j c hc'
      exact ⟨u, u1, u2.ext x (SameKey.refl _ _) fun _ => rfl⟩
theorem takeout_rep {G : Gh} {h : Heap} {w : World} (hr : HRep B Z0 G h w) (k1 k3 : Nat) : ∃ G', HRep B Z0 G' (outH k1 k3 h) w ∧ Ext G h w G' (outH k1 k3 h) w := by
  have same : ∀ {h'}, h' = h → ∃ G', HRep B Z0 G' h' w ∧ Ext G h w G' h' w := fun e => by subst e; exact ⟨G, hr, Ext.refl⟩
  unfold outH
  split
  case h_2 => exact same rfl
  rename_i g s ver fr es g3 e1 e3
  split
  case isFalse => exact same rfl
  rename_i hc
  obtain ⟨rfl, rfl, hne, hl1, hl3⟩ := hc
  split
  case h_2 => exact same rfl
  rename_i ns hlast
  split
  case isFalse => exact same rfl
  rename_i hcn
  obtain ⟨hn0, hsz⟩ := hcn
  have h1 : h[k1]? = some (g, .arr 1 ver false es) := by rw [List.getElem?_eq_getElem hl1]; rw [List.getD_eq_getElem?_getD, List.getElem?_eq_getElem hl1] at e1; simpa using e1
  have h3 : h[k3]? = some (g3, .dead) := by rw [List.getElem?_eq_getElem hl3]; rw [List.getD_eq_getElem?_getD, List.getElem?_eq_getElem hl3] at e3; simpa using e3
  have hes : es ≠ [] := fun e => by subst e; simp at hlast
  have hel : 0 < es.length := List.length_pos_iff.2 hes
  obtain ⟨i, hi⟩ : ∃ i, i = es.length - 1 := ⟨_, rfl⟩
  have he : es[i]? = some (.uslc ns) := by rw [hi, ← List.getLast?_eq_getElem?]; exact hlast
  have hil : i < es.length := by omega
  have hob := hr.ob k1 g _ h1
  unfold ORep at hob
  obtain ⟨_, _, _, o4, o5⟩ := hob
  have hR1 : G.R (root k1) := Classical.byContradiction fun hn => hes (o5 hn)
  obtain ⟨us, T, o6, _, o8⟩ := o4 hR1
  obtain ⟨u, u1, u2⟩ := (o8 i _ he).2 0 (.uslc ns) rfl
  unfold CRep NRep at u2
  have hRn : G.R (nest k1 i 0) := Classical.byContradiction fun hn => by
    have := (u2.2 hn).2
    subst this; simp at hn0
  obtain ⟨us2, T2, f, c, rfl, n2, n3, n4, n5, n6, n7, n8, n9⟩ := u2.1 hRn
  have hσ : G.σ (nest k1 i 0) = 1 := by
    have q := (n9 0 ns[0] (List.getElem?_eq_getElem hn0)).1
    have := List.all_eq_true.1 hsz ns[0] (List.getElem_mem hn0)
    simp at this
    omega
  rw [hσ, Nat.mul_one] at n7
  obtain ⟨a1, a2⟩ := any_cell hr h1 he
  have h3' : (h.set k1 (g, .arr 1 (ver + 1) false (es.set i .any)))[k3]? = some (g3, .dead) := by rw [List.getElem?_set_ne hne]; exact h3
  obtain ⟨b1, b2⟩ := own_block a1 (us := us2) (T := T2) (b := G.β (nest k1 i 0)) (γ0 := G.γ (nest k1 i 0)) (sz := 1) (ns := ns) h3' (hr.lv _ hRn).1 (hr.nz k1 g _ h1 rfl _ hRn) (fun key hk e => hk.1 (hr.inj _ _ hk.2 hRn e)) n6 (by omega) n5 (by omega) (by omega) (fun a e hae => by
    obtain ⟨q1, q2⟩ := n9 a e hae
    rw [hσ] at q1 q2
    refine ⟨q1, fun j cc hcc => ?_⟩
    obtain ⟨q3, v, q4, q5⟩ := q2 j cc hcc
    exact ⟨q3, v, q4, q5⟩)
  have h1' : ((h.set k1 (g, .arr 1 (ver + 1) false (es.set i .any))).set k3 (g3 + 1, .arr 1 0 false ns))[k1]? = some (g, .arr 1 (ver + 1) false (es.set i .any)) := by
    rw [List.getElem?_set_ne (Ne.symm hne), List.getElem?_set_self hl1]
  have hβ1 : ((G.drp k1 i).own3 k3 (G.β (nest k1 i 0)) (G.γ (nest k1 i 0))).β (root k1) = G.β (root k1) := by
    have : (root k1 : Key) ≠ root k3 := fun e => hne (congrArg Prod.fst e)
    simp [Gh.own3, Gh.drp, this]
  obtain ⟨c1, c2⟩ := arr_cell b1 (c' := .own k3 (g3 + 1) ns.length 1 0 ns.length) h1' (by rw [List.getElem?_set_self hil]) rfl (fun us' T' u hu hui => by
    rw [hβ1, o6] at hu
    cases hu
    rw [Nat.mul_one] at u1
    rw [show i + 0 = i from rfl, hui] at u1
    cases u1
    unfold D VRep
    refine ⟨_, c, rfl, n3, by omega, .inr ⟨_, _, rfl⟩, g3 + 1, _, List.getElem?_set_self (by simpa using hl3), Nat.le_refl _, fun _ sz vr fr' es' e => ?_⟩
    cases e
    refine ⟨Nat.le_refl _, fun _ => ⟨by omega, fun _ => ⟨f, by simp [Gh.own3], n2.imp id fun h _ => by omega, by omega, by simp [Gh.own3]; omega⟩, fun hn => absurd (.inl rfl) hn⟩⟩)
  have hfin : (((h.set k1 (g, .arr 1 (ver + 1) false (es.set i .any))).set k3 (g3 + 1, .arr 1 0 false ns)).set k1 (g, .arr 1 (ver + 1) false ((es.set i .any).set i (.own k3 (g3 + 1) ns.length 1 0 ns.length)))) =
      ((h.set k1 (g, .arr 1 (ver + 1) false (es.dropLast ++ [.own k3 (g3 + 1) ns.length 1 0 ns.length]))).set k3 (g3 + 1, .arr 1 0 false ns)) := by
    rw [List.set_comm _ _ (Ne.symm hne), List.set_set, List.set_set]
    congr 4
    rw [hi]
    conv => lhs; rw [← List.dropLast_concat_getLast hes]
    rw [List.set_append_right _ _ (by simp)]
    simp
  rw [← hfin]
  exact ⟨_, c1, a2.trans (b2.trans c2)⟩
theorem mrep_frz {G : Gh} {h : Heap} {w : World} {Z' : Nat → Prop} (hz : ∀ b, G.Z b → Z' b) {k i : Nat} (hk : G.R (nest k i 0) → Z' (G.β (nest k i 0))) {u : Value} {c : PV} (hn : mvS c = true) (hc : MRep G h w k i u c) {G' : Gh} {h' : Heap} (hZ : G'.Z = Z') : MRep G' h' w k i u (frzC c) := by
  have done : (pureC c || isU c) = true → CRep G h w k i 0 u c → MRep G' h' w k i u (frzC c) := fun h1 h2 => by
    obtain ⟨q1, q2⟩ := crep_frz hz hk h1 h2
    subst hZ
    have hnu : ∀ ns, frzC c ≠ .uslc ns := fun ns e => by rw [e] at q1; simp [one] at q1
    exact (mrep_of hnu).2 (prep_vrep q1 q2)
  by_cases hp : (pureC c || isU c) = true
  · refine done hp ?_
    cases c
    case uslc ns => exact hc
    all_goals
      first
        | (simp [pureC, isU] at hp; done)
        | (unfold MRep at hc; unfold CRep; exact ⟨rfl, hc⟩)
  · have hf : fn0 c = true := by unfold mvS at hn; revert hn hp; cases pureC c <;> cases isU c <;> simp
    unfold fn0 at hf
    split at hf
    · rename_i f
      unfold MRep at hc
      show MRep G' h' w k i u (.fn (.func f) [] [])
      unfold MRep
      obtain ⟨vs, us, rfl, h1, h2⟩ := rep_fn hc
      unfold D; unfold VRep
      exact ⟨vs, us, rfl, ⟨h1.1, fun i c hc => by simp at hc⟩, ⟨h2.1, fun i c hc => by simp at hc⟩⟩
    · cases hf
/-- what a map holds is frozen -/
theorem frz_mp2 {G : Gh} {h : Heap} {w : World} (hr : HRep B Z0 G h w) {k g : Nat} {fr : Bool} {ks us : List PV} (hh : h[k]? = some (g, .mp fr ks us)) (hp : us.all mvS = true) :
    HRep B Z0 (G.frz2 k) (h.set k (g, .mp fr ks (us.map frzC))) w ∧ Ext G h w (G.frz2 k) (h.set k (g, .mp fr ks (us.map frzC))) w := by
  have hk : k < h.length := (List.getElem?_eq_some_iff.1 hh).1
  have hsame : ∀ k' y, k' ≠ k → SameKey G (G.frz2 k) (k', y) := fun k' y hkk => ⟨rfl, ⟨fun x => x.2, fun x => ⟨fun e => absurd e hkk, x⟩⟩, rfl, rfl⟩
  have hroot : SameKey G (G.frz2 k) (root k) := ⟨rfl, ⟨fun x => x.2, fun x => ⟨fun _ => rfl, x⟩⟩, rfl, rfl⟩
  have hob := hr.ob k g _ hh
  unfold ORep at hob
  obtain ⟨o1, o2, es, o3, o4, o5⟩ := hob
  have x : Ext G h w (G.frz2 k) (h.set k (g, .mp fr ks (us.map frzC))) w := by
    refine ⟨fun _ y => .inl y, fun _ _ => rfl, fun k' gn ob e => ?_⟩
    by_cases hkk : k' = k
    · subst hkk; rw [hh] at e; cases e
      exact ⟨g, _, List.getElem?_set_self hk, Nat.le_refl _, fun _ => ⟨fun _ _ _ _ e' => (by cases e'), fun _ e' => (by cases e'), fun _ _ _ _ => ⟨_, _, _, rfl, hroot⟩⟩⟩
    · exact ⟨gn, ob, by rw [List.getElem?_set_ne (Ne.symm hkk)]; exact e, Nat.le_refl _, fun _ => Keep.refl k' ob (hsame _ _ hkk) fun i j => hsame _ _ hkk⟩
  refine ⟨hr.update k g _ hk x (fun k' y hkk => .inl (hsame k' y hkk)) (fun _ _ _ _ => rfl) (Nat.le_refl _) ?_ (fun b hb => hb.imp id fun ⟨ij, h1, h2⟩ => h2 ▸ (hr.lv _ h1).1) ?_ ?_ ?_ ?_, x⟩
  · rintro b (hb | ⟨ij, hR, rfl⟩)
    · exact hr.zb b hb
    · exact (hr.lv _ hR).2
  · rintro k' y hkk hR hn (hb | ⟨ij, hR2, he⟩)
    · exact hn hb
    · exact hkk (congrArg Prod.fst (hr.inj _ _ hR hR2 he))
  · intro y hR
    obtain ⟨b1, b2⟩ := hr.lv (k, y) hR.2
    have hy : y = none := hR.1 rfl
    subst hy
    refine ⟨b1, b2, fun hl => ?_, fun y' hR' he => congrArg Prod.snd (hr.inj _ _ hR.2 hR'.2 he), fun k' y' hkk hR' he => hkk (congrArg Prod.fst (hr.inj _ _ hR.2 hR'.2 he)).symm⟩
    rintro (hb | ⟨ij, hR2, he⟩)
    · exact hr.nz k g _ hh hl none hR.2 hb
    · have := hr.inj _ _ hR.2 hR2 he
      simp at this
  · intro hfo y hR
    exact .inl (hr.fz k g _ hh hfo y hR.2)
  · unfold ORep
    refine ⟨⟨fun _ => rfl, o1⟩, by rw [List.length_map]; exact o2, es, o3, o4, fun i c hc => ?_⟩
    rw [List.getElem?_map] at hc
    obtain ⟨c0, hc0, rfl⟩ := Option.map_eq_some_iff.1 hc
    obtain ⟨e, e1, e2⟩ := o5 i c0 hc0
    exact ⟨e, e1, mrep_frz (Z' := (G.frz2 k).Z) (fun b hb => .inl hb) (fun hR' => .inr ⟨(i, 0), hR', rfl⟩) (List.all_eq_true.1 hp c0 (List.mem_of_getElem? hc0)) e2 rfl⟩
/-- a map is frozen, and what it holds -/
theorem frz_mp3 {G : Gh} {h : Heap} {w : World} (hr : HRep B Z0 G h w) {k g : Nat} {fr : Bool} {ks us : List PV} (hh : h[k]? = some (g, .mp fr ks us)) (hp : us.all mvS = true) :
    HRep B Z0 (G.frz3 k) (h.set k (g, .mp true ks (us.map frzC))) w ∧ Ext G h w (G.frz3 k) (h.set k (g, .mp true ks (us.map frzC))) w := by
  have hk : k < h.length := (List.getElem?_eq_some_iff.1 hh).1
  have hsame : ∀ k' y, k' ≠ k → SameKey G (G.frz3 k) (k', y) := fun k' y hkk => ⟨rfl, ⟨fun x => x.2, fun x => ⟨fun e => absurd e hkk, x⟩⟩, rfl, rfl⟩
  have hroot : SameKey G (G.frz3 k) (root k) := ⟨rfl, ⟨fun x => x.2, fun x => ⟨fun _ => rfl, x⟩⟩, rfl, rfl⟩
  have hob := hr.ob k g _ hh
  unfold ORep at hob
  obtain ⟨o1, o2, es, o3, o4, o5⟩ := hob
  have x : Ext G h w (G.frz3 k) (h.set k (g, .mp true ks (us.map frzC))) w := by
    refine ⟨fun _ y => .inl y, fun _ _ => rfl, fun k' gn ob e => ?_⟩
    by_cases hkk : k' = k
    · subst hkk; rw [hh] at e; cases e
      exact ⟨g, _, List.getElem?_set_self hk, Nat.le_refl _, fun _ => ⟨fun _ _ _ _ e' => (by cases e'), fun _ e' => (by cases e'), fun _ _ _ _ => ⟨_, _, _, rfl, hroot⟩⟩⟩
    · exact ⟨gn, ob, by rw [List.getElem?_set_ne (Ne.symm hkk)]; exact e, Nat.le_refl _, fun _ => Keep.refl k' ob (hsame _ _ hkk) fun i j => hsame _ _ hkk⟩
  refine ⟨hr.update k g _ hk x (fun k' y hkk => .inl (hsame k' y hkk)) (fun _ _ _ _ => rfl) (Nat.le_refl _) ?_ (fun b hb => hb.imp id fun ⟨ij, h1, h2⟩ => h2 ▸ (hr.lv _ h1).1) ?_ ?_ ?_ ?_, x⟩
  · rintro b (hb | ⟨ij, hR, rfl⟩)
    · exact hr.zb b hb
    · exact (hr.lv _ hR).2
  · rintro k' y hkk hR hn (hb | ⟨ij, hR2, he⟩)
    · exact hn hb
    · exact hkk (congrArg Prod.fst (hr.inj _ _ hR hR2 he))
  · intro y hR
    obtain ⟨b1, b2⟩ := hr.lv (k, y) hR.2
    have hy : y = none := hR.1 rfl
    subst hy
    refine ⟨b1, b2, fun hl => ?_, fun y' hR' he => congrArg Prod.snd (hr.inj _ _ hR.2 hR'.2 he), fun k' y' hkk hR' he => hkk (congrArg Prod.fst (hr.inj _ _ hR.2 hR'.2 he)).symm⟩
    simp [liveOb] at hl
  · intro hfo y hR
    exact .inr ⟨y, hR.2, rfl⟩
  · unfold ORep
    refine ⟨⟨fun _ => rfl, o1⟩, by rw [List.length_map]; exact o2, es, o3, o4, fun i c hc => ?_⟩
    rw [List.getElem?_map] at hc
    obtain ⟨c0, hc0, rfl⟩ := Option.map_eq_some_iff.1 hc
    obtain ⟨e, e1, e2⟩ := o5 i c0 hc0
    exact ⟨e, e1, mrep_frz (Z' := (G.frz3 k).Z) (fun b hb => .inl hb) (fun hR' => .inr ⟨some (i, 0), hR', rfl⟩) (List.all_eq_true.1 hp c0 (List.mem_of_getElem? hc0)) e2 rfl⟩
theorem SInv.frz {vars : List PV} {a : Act} {w : World} : ∀ {l : List (Nat × Bool)} {h : Heap}, SInv B Z0 W0 vs N vars h a w → SInv B Z0 W0 vs N vars (frzH l h) a w
  | [], h, hi => hi
  | (k, r) :: l, h, hi => by
    refine SInv.frz (l := l) ?_
    by_cases h1000 : 1000 ≤ k
    · show SInv B Z0 W0 vs N vars (if 1000 ≤ k then _ else _) a w
      rw [if_pos h1000]
      obtain ⟨G, i1, i2, i3, i4, i5⟩ := hi
      obtain ⟨G', r1, r2⟩ := takeout_rep i1 (k / 1000 - 1) (k % 1000)
      exact ⟨G', r1, fun k s hs => by obtain ⟨v, q1, q2⟩ := i2 k s hs; exact ⟨v, q1, q2.ext r2⟩, i3, i4, W0.step i5 r2 (Bl.refl _ _)⟩
    show SInv B Z0 W0 vs N vars (if 1000 ≤ k then _ else _) a w
    rw [if_neg h1000]
    obtain ⟨G, i1, i2, i3, i4, i5⟩ := hi
    cases hh : h[k]? with
    | none =>
      have : h.set k ((h.getD k (0, .dead)).1, frzO h r (h.getD k (0, .dead)).2) = h := List.set_eq_of_length_le (by simpa using hh)
      show SInv B Z0 W0 vs N vars (h.set k _) a w
      rw [this]; exact ⟨G, i1, i2, i3, i4, i5⟩
    | some o =>
      obtain ⟨g, ob⟩ := o
      have hd : h.getD k (0, .dead) = (g, ob) := by simp [List.getD, hh]
      show SInv B Z0 W0 vs N vars (h.set k ((h.getD k (0, .dead)).1, frzO h r (h.getD k (0, .dead)).2)) a w
      rw [hd]
      have same : frzO h r ob = ob → SInv B Z0 W0 vs N vars (h.set k (g, frzO h r ob)) a w := fun e => by
        rw [e]
        have : h.set k (g, ob) = h := by
          obtain ⟨hk, hg⟩ := List.getElem?_eq_some_iff.1 hh
          rw [← hg]; exact List.set_getElem_self hk
        rw [this]; exact ⟨G, i1, i2, i3, i4, i5⟩
      have fresh : ∀ G' o', HRep B Z0 G' (h.set k (g, o')) w ∧ Ext G h w G' (h.set k (g, o')) w → SInv B Z0 W0 vs N vars (h.set k (g, o')) a w := fun G' o' hx =>
        ⟨G', hx.1, fun k s hs => by obtain ⟨v, h1, h2⟩ := i2 k s hs; exact ⟨v, h1, h2.ext hx.2⟩, i3, i4, W0.step i5 hx.2 (Bl.refl _ _)⟩
      cases ob with
      | dead => exact same rfl
      | var cs => exact fresh _ _ (frz_var i1 hh)
      | mp fr us vs =>
        by_cases hp : vs.all mvS = true
        · cases r with
          | false =>
            have e : frzO h false (.mp fr us vs) = .mp fr us (vs.map frzC) := by simp only [frzO, hp, if_true, Bool.or_false]
            rw [e]; exact fresh _ _ (frz_mp2 i1 hh hp)
          | true =>
            have e : frzO h true (.mp fr us vs) = .mp true us (vs.map frzC) := by simp only [frzO, hp, if_true, Bool.or_true]
            rw [e]; exact fresh _ _ (frz_mp3 i1 hh hp)
        · exact same (by simp only [frzO, hp]; rfl)
      | arr sz ver fr es =>
        by_cases hp : es.all noRefE = true
        · cases r with
          | false => 
            have e : frzO h false (.arr sz ver fr es) = .arr sz (ver + 1) fr (es.map frzE) := by simp only [frzO, hp, if_true, Bool.or_false]
            rw [e]; exact fresh _ _ (frz_obj i1 hh hp)
          | true =>
            have e : frzO h true (.arr sz ver fr es) = .arr sz (ver + 1) true (es.map frzE) := by simp only [frzO, hp, if_true, Bool.or_true]
            rw [e]; exact fresh _ _ (frz_whole i1 hh hp)
        · exact same (by simp only [frzO, hp]; rfl)
/-- is no state settled in it? -/
def noLS : XCode → Bool
  | .seq a b | .cond _ a b => noLS a && noLS b
  | .block _ b | .loop b | .frz _ b | .mat _ _ _ _ b => noLS b
  | .loopS .. => false
  | _ => true
/-- a slice that is nil is an array of no elements -/
def Gh.noR (G : Gh) (k : Nat) : Gh := { G with R := fun key => key.1 ≠ k ∧ G.R key, γ := fun key => if key.1 = k then 0 else G.γ key }
theorem nil_arr {G : Gh} {h : Heap} {w : World} (hr : HRep B Z0 G h w) {k sz g : Nat} (hh : h[k]? = some (g, .dead)) (hsz : 0 < sz) :
    HRep B Z0 (G.noR k) (h.set k (g + 1, .arr sz 0 false [])) w ∧ Ext G h w (G.noR k) (h.set k (g + 1, .arr sz 0 false [])) w ∧ VRep (G.noR k) (h.set k (g + 1, .arr sz 0 false [])) w D (.slice none 0 0) (.own k (g + 1) 0 sz 0 0) := by
  have hk : k < h.length := (List.getElem?_eq_some_iff.1 hh).1
  have hsame : ∀ k' y, k' ≠ k → SameKey G (G.noR k) (k', y) := fun k' y hkk => ⟨rfl, ⟨fun x => x.2, fun x => ⟨hkk, x⟩⟩, by simp [Gh.noR, hkk], rfl⟩
  have x : Ext G h w (G.noR k) (h.set k (g + 1, .arr sz 0 false [])) w := by
    refine ⟨fun _ y => y, fun _ _ => rfl, fun k' gn ob e => ?_⟩
    by_cases hkk : k' = k
    · subst hkk; rw [hh] at e; cases e
      exact ⟨g + 1, _, List.getElem?_set_self hk, by omega, fun e => by omega⟩
    · exact ⟨gn, ob, by rw [List.getElem?_set_ne (Ne.symm hkk)]; exact e, Nat.le_refl _, fun _ => Keep.refl k' ob (hsame _ _ hkk) fun i j => hsame _ _ hkk⟩
  refine ⟨hr.update k (g + 1) _ hk x (fun k' y hkk => .inl (hsame k' y hkk)) (fun _ _ _ _ => rfl) (Nat.le_refl _) (fun b hb => hr.zb b hb) (fun b hb => .inl hb) (fun _ _ _ _ hn => hn) (fun y hR => absurd rfl hR.1) (fun e => by cases e) ?_, x, ?_⟩
  · unfold ORep
    exact ⟨hsz, by simp, by simp [Gh.noR, root], fun hR => absurd rfl hR.1, fun _ => rfl⟩
  · unfold D VRep
    refine ⟨none, 0, rfl, Nat.le_refl _, Nat.zero_le _, .inl ⟨rfl, rfl⟩, g + 1, _, List.getElem?_set_self hk, Nat.le_refl _, fun _ sz' ver fr es e => ?_⟩
    cases e
    exact ⟨by simp, fun _ => ⟨by omega, fun hR => absurd rfl hR.1, fun _ => ⟨rfl, rfl⟩⟩⟩
/-- a cell of a variable is taken as something else -/
theorem var_cell {G : Gh} {h : Heap} {w : World} (hr : HRep B Z0 G h w) {k g j : Nat} {cs : List PV} {c' : PV} (hh : h[k]? = some (g, .var cs)) (ho : one c' = true) (hc : ∀ u c, cs[j]? = some c → VRep G h w D u c → VRep G h w D u c') :
    HRep B Z0 G (h.set k (g, .var (cs.set j c'))) w ∧ Ext G h w G (h.set k (g, .var (cs.set j c'))) w := by
  have hk : k < h.length := (List.getElem?_eq_some_iff.1 hh).1
  have hob := hr.ob k g _ hh
  unfold ORep at hob
  obtain ⟨hR, us, T, hb, hu⟩ := hob
  have x : Ext G h w G (h.set k (g, .var (cs.set j c'))) w := by
    refine ⟨fun _ y => y, fun _ _ => rfl, fun k' gn ob e => ?_⟩
    by_cases hkk : k' = k
    · subst hkk; rw [hh] at e; cases e
      refine ⟨g, .var _, List.getElem?_set_self hk, Nat.le_refl _, fun _ => ⟨fun _ _ _ _ e' => ?_, fun cs'' e' => ⟨cs, rfl, SameKey.refl _ _⟩, fun _ _ _ e' => (by cases e')⟩⟩
      cases e'
    · exact ⟨gn, ob, by rw [List.getElem?_set_ne (Ne.symm hkk)]; exact e, Nat.le_refl _, fun _ => Keep.refl k' ob (SameKey.refl _ _) fun i j => SameKey.refl _ _⟩
  refine ⟨hr.update k g _ hk x (fun _ _ _ => .inl (SameKey.refl _ _)) (fun _ _ _ _ => rfl) (Nat.le_refl _) (fun b hb' => hr.zb b hb') (fun b hb => .inl hb) (fun _ _ _ _ hn => hn) (fun y hR' => ?_) (fun e => by cases e) ?_, x⟩
  · obtain ⟨b1, b2⟩ := hr.lv _ hR'
    exact ⟨b1, b2, fun _ => hr.nz k g _ hh rfl y hR', fun y' hR2 e => congrArg Prod.snd (hr.inj _ _ hR' hR2 e), fun k' y' hkk hR2 e => hkk (congrArg Prod.fst (hr.inj _ _ hR' hR2 e)).symm⟩
  · unfold ORep
    refine ⟨hR, us, T, hb, by rw [List.length_set]; exact hu.1, fun i c hci => ?_⟩
    by_cases hij : i = j
    · subst hij
      have hl : i < cs.length := by simpa using (List.getElem?_eq_some_iff.1 hci).1
      rw [List.getElem?_set_self hl] at hci
      cases hci
      obtain ⟨v, h1, h2⟩ := hu.2 i _ (List.getElem?_eq_getElem hl)
      exact ⟨v, h1, ho, (hc v _ (List.getElem?_eq_getElem hl) h2.2).ext x⟩
    · rw [List.getElem?_set_ne (Ne.symm hij)] at hci
      obtain ⟨v, h1, h2⟩ := hu.2 i c hci
      exact ⟨v, h1, h2.1, h2.2.ext x⟩
theorem SInv.mat (hgf : ∀ {g g' : PV} {G : Gh} {h : Heap} {w : World}, W0.psi g G h w → W0.psi g' G h w) {vars : List PV} {a : Act} {w : World} {v : Nat} {c : Option Nat} {k sz : Nat} {h : Heap} (hi : SInv B Z0 W0 vs N vars h a w) : SInv B Z0 W0 vs N (matP v c k sz vars h).1 (matP v c k sz vars h).2 a w := by
  unfold matP
  split
  · obtain ⟨G, i1, i2, i3, i4, i5⟩ := hi
    refine ⟨G, i1, fun i s hs => ?_, i3, i4, hgf i5⟩
    obtain ⟨u, q1, q2⟩ := i2 i s hs
    refine ⟨u, q1, ?_⟩
    simp only [List.getD_eq_getElem?_getD] at q2 ⊢
    by_cases hiv : i = v
    · subst hiv
      by_cases hl : i < vars.length
      · rw [List.getElem?_set_self hl]
        exact frzR_any i1 q2
      · rw [List.getElem?_eq_none (by simp; omega)]; exact mk_undef
    · rw [List.getElem?_set_ne (Ne.symm hiv)]; exact q2
  split
  · rename_i g hh
    split
    · rename_i hsz
      obtain ⟨G, i1, i2, i3, i4, i5⟩ := hi
      obtain ⟨n1, n2, n3⟩ := nil_arr i1 hh hsz
      have v1 : VarsR (G.noR k) (h.set k (g + 1, .arr sz 0 false [])) w vs vars a := fun k s hk => by
        obtain ⟨v, q1, q2⟩ := i2 k s hk
        exact ⟨v, q1, q2.ext n2⟩
      split
      · rename_i hv
        refine ⟨_, n1, fun i s hs => ?_, i3, i4, hgf (W0.step i5 n2 (Bl.refl _ _))⟩
        obtain ⟨u, q1, q2⟩ := v1 i s hs
        refine ⟨u, q1, ?_⟩
        simp only [List.getD_eq_getElem?_getD] at q2 hv ⊢
        by_cases hiv : i = v
        · subst hiv
          by_cases hl : i < vars.length
          · rw [List.getElem?_set_self hl]
            rw [hv] at q2
            rw [rep_nils q2]; exact n3
          · rw [List.getElem?_eq_none (by simp; omega)]; exact mk_undef
        · rw [List.getElem?_set_ne (Ne.symm hiv)]; exact q2
      · rename_i j k2 g2 hv
        split
        · rename_i g3 cs hk2
          split
          · split
            · rename_i hcj
              have hne : k2 ≠ k := fun e => by subst e; rw [hh] at hk2; cases hk2
              have hk2' : (h.set k (g + 1, .arr sz 0 false []))[k2]? = some (g3, .var cs) := by rw [List.getElem?_set_ne (Ne.symm hne)]; exact hk2
              obtain ⟨m1, m2⟩ := var_cell n1 hk2' (c' := .own k (g + 1) 0 sz 0 0) rfl (j := j) (fun u c hc hv => by
                rw [hcj] at hc; cases hc
                rw [rep_nils hv]; exact n3)
              exact ⟨_, m1, fun i s hs => by
                obtain ⟨u, q1, q2⟩ := v1 i s hs
                exact ⟨u, q1, q2.ext m2⟩, i3, i4, hgf (W0.step (W0.step i5 n2 (Bl.refl _ _)) m2 (Bl.refl _ _))⟩
            · exact ⟨G, i1, i2, i3, i4, i5⟩
          · exact ⟨G, i1, i2, i3, i4, i5⟩
        · exact ⟨G, i1, i2, i3, i4, i5⟩
      · exact ⟨G, i1, i2, i3, i4, i5⟩
    · exact hi
  · exact hi
theorem peel (hgf : ∀ {g g' : PV} {G : Gh} {h : Heap} {w : World}, W0.psi g G h w → W0.psi g' G h w) {FN : FNs} {a : Act} {w : World} {Q : XPost} : ∀ {x : XCode} {vars : List PV} {h : Heap}, xwp FN x Q vars h → SInv B Z0 W0 vs N vars h a w → ∃ x' vars' h', (∀ l b, x' ≠ .frz l b) ∧ (∀ v c k sz b, x' ≠ .mat v c k sz b) ∧ (strip x' = strip x ∧ noLS x' = noLS x) ∧ xwp FN x' Q vars' h' ∧ SInv B Z0 W0 vs N vars' h' a w := by
  intro x
  induction x with
  | frz l b ih => intro vars h hx hi; exact ih (show xwp FN b Q vars (frzH l h) from hx) hi.frz
  | mat v c k sz b ih => intro vars h hx hi; exact ih (show xwp FN b Q (matP v c k sz vars h).1 (matP v c k sz vars h).2 from hx) (hi.mat hgf)
  | skip | reg | seq | cond | block | loop | loopS | exit | ret | rfor => intro vars h hx hi; exact ⟨_, vars, h, (fun l b e => by cases e), (fun v c k sz b e => by cases e), ⟨rfl, rfl⟩, hx, hi⟩
theorem peelF {FN : FNs} {vars : List PV} {a : Act} {w : World} {Q : XPost} : ∀ {x : XCode} {h : Heap}, xwp FN x Q vars h → SInv B Z0 W0 vs N vars h a w → ∃ x' h', (∀ l b, x' ≠ .frz l b) ∧ stripF x' = stripF x ∧ xwp FN x' Q vars h' ∧ SInv B Z0 W0 vs N vars h' a w := by
  intro x
  induction x with
  | frz l b ih => intro h hx hi; exact ih (show xwp FN b Q vars (frzH l h) from hx) hi.frz
  | skip | reg | seq | cond | block | loop | loopS | exit | ret | rfor | mat => intro h hx hi; exact ⟨_, h, (fun l b e => by cases e), rfl, hx, hi⟩
end
theorem st_skip {x : XCode} (hf : ∀ l b, x ≠ .frz l b) (hm : ∀ v c k sz b, x ≠ .mat v c k sz b) (h : strip x = .skip) : x = .skip := by cases x <;> simp [strip] at h <;> first | exact absurd rfl (hf _ _) | exact absurd rfl (hm _ _ _ _ _) | rfl
theorem st_exit {x : XCode} {id : Nat} (hf : ∀ l b, x ≠ .frz l b) (hm : ∀ v c k sz b, x ≠ .mat v c k sz b) (h : strip x = .exit id) : x = .exit id := by cases x <;> simp [strip] at h <;> first | exact absurd rfl (hf _ _) | exact absurd rfl (hm _ _ _ _ _) | (subst h; rfl)
theorem st_ret {x : XCode} (hf : ∀ l b, x ≠ .frz l b) (hm : ∀ v c k sz b, x ≠ .mat v c k sz b) (h : strip x = .ret) : x = .ret := by cases x <;> simp [strip] at h <;> first | exact absurd rfl (hf _ _) | exact absurd rfl (hm _ _ _ _ _) | rfl
theorem st_reg {x : XCode} {xs : List XOper} (hf : ∀ l b, x ≠ .frz l b) (hm : ∀ v c k sz b, x ≠ .mat v c k sz b) (h : strip x = .reg xs) : x = .reg xs := by cases x <;> simp [strip] at h <;> first | exact absurd rfl (hf _ _) | exact absurd rfl (hm _ _ _ _ _) | (subst h; rfl)
theorem st_rfor {x a b : XCode} {g : Opd} {ps : List (Option Nat)} (hf : ∀ l b, x ≠ .frz l b) (hm : ∀ v c k sz b, x ≠ .mat v c k sz b) (h : strip x = .rfor g ps a b) : ∃ a' b', x = .rfor g ps a' b' ∧ stripF a' = a ∧ stripF b' = b := by
  cases x <;> first | exact absurd rfl (hf _ _) | exact absurd rfl (hm _ _ _ _ _) | simp [strip] at h
  obtain ⟨rfl, rfl, h1, h2⟩ := h
  exact ⟨_, _, rfl, h1, h2⟩
theorem st_seq {x a b : XCode} (hf : ∀ l b, x ≠ .frz l b) (hm : ∀ v c k sz b, x ≠ .mat v c k sz b) (h : strip x = .seq a b) : ∃ a' b', x = .seq a' b' ∧ strip a' = a ∧ strip b' = b := by
  cases x <;> first | exact absurd rfl (hf _ _) | exact absurd rfl (hm _ _ _ _ _) | simp [strip] at h
  exact ⟨_, _, rfl, h.1, h.2⟩
theorem st_cond {x a b : XCode} {c : Opd} (hf : ∀ l b, x ≠ .frz l b) (hm : ∀ v c k sz b, x ≠ .mat v c k sz b) (h : strip x = .cond c a b) : ∃ a' b', x = .cond c a' b' ∧ strip a' = a ∧ strip b' = b := by
  cases x <;> first | exact absurd rfl (hf _ _) | exact absurd rfl (hm _ _ _ _ _) | simp [strip] at h
  obtain ⟨rfl, h1, h2⟩ := h
  exact ⟨_, _, rfl, h1, h2⟩
theorem st_block {x b : XCode} {id : Nat} (hf : ∀ l b, x ≠ .frz l b) (hm : ∀ v c k sz b, x ≠ .mat v c k sz b) (h : strip x = .block id b) : ∃ b', x = .block id b' ∧ strip b' = b := by
  cases x <;> first | exact absurd rfl (hf _ _) | exact absurd rfl (hm _ _ _ _ _) | simp [strip] at h
  obtain ⟨rfl, h1⟩ := h
  exact ⟨_, rfl, h1⟩
theorem st_loop {x b : XCode} (hf : ∀ l b, x ≠ .frz l b) (hm : ∀ v c k sz b, x ≠ .mat v c k sz b) (h : strip x = .loop b) : (∃ b', x = .loop b' ∧ strip b' = b) ∨ ∃ lv c0 b', x = .loopS lv c0 b' ∧ strip b' = b := by
  cases x <;> first | exact absurd rfl (hf _ _) | exact absurd rfl (hm _ _ _ _ _) | simp [strip] at h
  · exact .inl ⟨_, rfl, h⟩
  · exact .inr ⟨_, _, _, rfl, h⟩
theorem stf_skip {x : XCode} (hf : ∀ l b, x ≠ .frz l b) (h : stripF x = .skip) : x = .skip := by cases x <;> simp [stripF] at h <;> first | exact absurd rfl (hf _ _) | rfl
theorem stf_exit {x : XCode} {id : Nat} (hf : ∀ l b, x ≠ .frz l b) (h : stripF x = .exit id) : x = .exit id := by cases x <;> simp [stripF] at h <;> first | exact absurd rfl (hf _ _) | (subst h; rfl)
theorem stf_ret {x : XCode} (hf : ∀ l b, x ≠ .frz l b) (h : stripF x = .ret) : x = .ret := by cases x <;> simp [stripF] at h <;> first | exact absurd rfl (hf _ _) | rfl
theorem stf_reg {x : XCode} {xs : List XOper} (hf : ∀ l b, x ≠ .frz l b) (h : stripF x = .reg xs) : x = .reg xs := by cases x <;> simp [stripF] at h <;> first | exact absurd rfl (hf _ _) | (subst h; rfl)
theorem stf_rfor {x a b : XCode} {g : Opd} {ps : List (Option Nat)} (hf : ∀ l b, x ≠ .frz l b) (h : stripF x = .rfor g ps a b) : ∃ a' b', x = .rfor g ps a' b' ∧ stripF a' = a ∧ stripF b' = b := by
  cases x <;> first | exact absurd rfl (hf _ _) | simp [stripF] at h
  obtain ⟨rfl, rfl, h1, h2⟩ := h
  exact ⟨_, _, rfl, h1, h2⟩
theorem stf_seq {x a b : XCode} (hf : ∀ l b, x ≠ .frz l b) (h : stripF x = .seq a b) : ∃ a' b', x = .seq a' b' ∧ stripF a' = a ∧ stripF b' = b := by
  cases x <;> first | exact absurd rfl (hf _ _) | simp [stripF] at h
  exact ⟨_, _, rfl, h.1, h.2⟩
theorem stf_cond {x a b : XCode} {c : Opd} (hf : ∀ l b, x ≠ .frz l b) (h : stripF x = .cond c a b) : ∃ a' b', x = .cond c a' b' ∧ stripF a' = a ∧ stripF b' = b := by
  cases x <;> first | exact absurd rfl (hf _ _) | simp [stripF] at h
  obtain ⟨rfl, h1, h2⟩ := h
  exact ⟨_, _, rfl, h1, h2⟩
theorem stf_block {x b : XCode} {id : Nat} (hf : ∀ l b, x ≠ .frz l b) (h : stripF x = .block id b) : ∃ b', x = .block id b' ∧ stripF b' = b := by
  cases x <;> first | exact absurd rfl (hf _ _) | simp [stripF] at h
  obtain ⟨rfl, h1⟩ := h
  exact ⟨_, rfl, h1⟩
theorem stf_loop {x b : XCode} (hf : ∀ l b, x ≠ .frz l b) (h : stripF x = .loop b) : ∃ b', x = .loop b' ∧ stripF b' = b := by
  cases x <;> first | exact absurd rfl (hf _ _) | simp [stripF] at h
  exact ⟨_, rfl, h⟩
section
variable {P : Program} {B : Nat} {Z0 : Nat → Prop} {W0 : Anch B} {vs : List Nat} {N : Nat} {vars : List PV} {h : Heap} {a : Act} {w : World}
/-- CODE without loops over functions, with arrays frozen here and there -/
theorem code_soundF {ρ : Option Nat} {nn : Nat} (hm : P.follows .mixedOrders = true) (hn : vs.Nodup) {FN : FNs} (hfn : FN.fn = Fn P) (hfi : FN.fi = FI P) (hfy : FyOk P B Z0 W0 ρ vs FN.fy) : ∀ (c : Code), noR c = true → ∀ (k k' : Nat) (x : XCode), compCode P vs N k c = some (stripF x, k') → ∀ (Q' : XPost) (Q : Exit → Act → World → Prop) (vars : List PV) (h : Heap) (a : Act) (w : World),
    xwp FN x Q' vars h → SInv B Z0 W0 vs N vars h a w → PostR B Z0 W0 vs N Q' Q → c.wpIn (fz ρ) nn P Q a w := by
  intro c
  induction c with
  | skip =>
    intro hr0 k k' x hc Q' Q vars h a w hx hi hq
    have hp := peelF hx hi
    clear hx hi
    obtain ⟨x, h, hnf, hst, hx, hi⟩ := hp
    rw [← hst] at hc
    simp only [compCode, Option.some.injEq, Prod.mk.injEq] at hc
    obtain ⟨hc, rfl⟩ := hc
    obtain rfl := stf_skip hnf hc.symm
    exact wpIn_skip (hq .normal _ _ _ _ hi hx)
  | label l =>
    intro hr0 k k' x hc Q' Q vars h a w hx hi hq
    have hp := peelF hx hi
    clear hx hi
    obtain ⟨x, h, hnf, hst, hx, hi⟩ := hp
    rw [← hst] at hc
    simp only [compCode, Option.some.injEq, Prod.mk.injEq] at hc
    obtain ⟨hc, rfl⟩ := hc
    obtain rfl := stf_skip hnf hc.symm
    exact wpIn_label (hq .normal _ _ _ _ hi hx)
  | exit id =>
    intro hr0 k k' x hc Q' Q vars h a w hx hi hq
    have hp := peelF hx hi
    clear hx hi
    obtain ⟨x, h, hnf, hst, hx, hi⟩ := hp
    rw [← hst] at hc
    simp only [compCode, Option.some.injEq, Prod.mk.injEq] at hc
    obtain ⟨hc, rfl⟩ := hc
    obtain rfl := stf_exit hnf hc.symm
    exact wpIn_exit (hq (.exit id) _ _ _ _ hi hx)
  | ret =>
    intro hr0 k k' x hc Q' Q vars h a w hx hi hq
    have hp := peelF hx hi
    clear hx hi
    obtain ⟨x, h, hnf, hst, hx, hi⟩ := hp
    rw [← hst] at hc
    simp only [compCode, Option.some.injEq, Prod.mk.injEq] at hc
    obtain ⟨hc, rfl⟩ := hc
    obtain rfl := stf_ret hnf hc.symm
    exact wpIn_ret (hq .ret _ _ _ _ hi hx)
  | region id ops d =>
    intro hr0 k k' x hc Q' Q vars h a w hx hi hq
    have hp := peelF hx hi
    clear hx hi
    obtain ⟨x, h, hnf, hst, hx, hi⟩ := hp
    rw [← hst] at hc
    simp only [compCode] at hc
    split at hc
    · rename_i xs k1 hc0
      simp only [Option.some.injEq, Prod.mk.injEq] at hc
      obtain ⟨hc, rfl⟩ := hc
      obtain rfl := stf_reg hnf hc.symm
      obtain ⟨hsi, hx⟩ := hx
      rw [show ops = ops.toList.toArray by simp]
      cases d with
      | false => exact plain_sound hfn hfi hfy hn hc0 hsi hx (fun st a w hi hq' => hq .normal _ _ _ _ hi hq') hi
      | true => exact drawn_sound hm hn hc0 hsi (xrun_noy hfn hfi (drawn_of hc0).cy hx) (fun st a w hi hq' => hq .normal _ _ _ _ hi hq') hi
    · cases hc
  | seq c1 c2 ih1 ih2 =>
    intro hr0 k k' x hc Q' Q vars h a w hx hi hq
    have hp := peelF hx hi
    clear hx hi
    obtain ⟨x, h, hnf, hst, hx, hi⟩ := hp
    rw [← hst] at hc
    simp only [compCode] at hc
    split at hc
    · rename_i x1 k1 h1
      split at hc
      · rename_i x2 k2 h2
        simp only [Option.some.injEq, Prod.mk.injEq] at hc
        obtain ⟨hc, rfl⟩ := hc
        obtain ⟨x1, x2, rfl, rfl, rfl⟩ := stf_seq hnf hc.symm
        simp only [noR, Bool.and_eq_true] at hr0
        refine wpIn_seq (ih1 hr0.1 _ _ _ h1 _ _ _ _ _ _ hx hi fun e vars h a w hi he => ?_)
        cases e with
        | normal => exact ih2 hr0.2 _ _ _ h2 _ _ _ _ _ _ he hi hq
        | exit id => exact hq (.exit id) _ _ _ _ hi he
        | ret => exact hq .ret _ _ _ _ hi he
      · cases hc
    · cases hc
  | cond cd c1 c2 ih1 ih2 =>
    intro hr0 k k' x hc Q' Q vars h a w hx hi hq
    have hp := peelF hx hi
    clear hx hi
    obtain ⟨x, h, hnf, hst, hx, hi⟩ := hp
    rw [← hst] at hc
    simp only [compCode] at hc
    split at hc
    · rename_i x1 k1 h1
      split at hc
      · rename_i x2 k2 h2
        split at hc
        · rename_i dd hdd
          simp only [Option.some.injEq, Prod.mk.injEq] at hc
          obtain ⟨hc, rfl⟩ := hc
          obtain ⟨x1, x2, rfl, rfl, rfl⟩ := stf_cond hnf hc.symm
          simp only [noR, Bool.and_eq_true] at hr0
          obtain ⟨G, i1, i2, i3⟩ := id hi
          have hr := cond_rep hdd i2
          simp only [xwp] at hx
          split at hx
          · rename_i he
            rw [he] at hr
            exact wpIn_cond_true (rep_bool hr) (ih1 hr0.1 _ _ _ h1 _ _ _ _ _ _ hx hi hq)
          · rename_i he
            rw [he] at hr
            exact wpIn_cond_false (rep_bool hr) (ih2 hr0.2 _ _ _ h2 _ _ _ _ _ _ hx hi hq)
          · exact hx.elim
        · cases hc
      · cases hc
    · cases hc
  | block id c ih =>
    intro hr0 k k' x hc Q' Q vars h a w hx hi hq
    have hp := peelF hx hi
    clear hx hi
    obtain ⟨x, h, hnf, hst, hx, hi⟩ := hp
    rw [← hst] at hc
    simp only [compCode] at hc
    split at hc
    · rename_i x1 k1 h1
      simp only [Option.some.injEq, Prod.mk.injEq] at hc
      obtain ⟨hc, rfl⟩ := hc
      obtain ⟨x1, rfl, rfl⟩ := stf_block hnf hc.symm
      refine wpIn_block (ih hr0 _ _ x1 h1 _ _ _ _ _ _ hx hi fun e vars h a w hi he => ?_)
      cases e with
      | normal => exact hq .normal _ _ _ _ hi he
      | exit i =>
        simp only [xin] at he
        show Exit.inBlock id Q (.exit i) a w
        simp only [Exit.inBlock]
        split at he
        · rename_i e; rw [if_pos e]; exact hq .normal _ _ _ _ hi he
        · rename_i e; rw [if_neg e]; exact hq (.exit i) _ _ _ _ hi he
      | ret => exact hq .ret _ _ _ _ hi he
    · cases hc
  | loop c ih =>
    intro hr0 k k' x hc Q' Q vars h a w hx hi hq
    have hp := peelF hx hi
    clear hx hi
    obtain ⟨x, h, hnf, hst, hx, hi⟩ := hp
    rw [← hst] at hc
    simp only [compCode] at hc
    split at hc
    · rename_i x1 k1 h1
      simp only [Option.some.injEq, Prod.mk.injEq] at hc
      obtain ⟨hc, rfl⟩ := hc
      obtain ⟨x1, rfl, rfl⟩ := stf_loop hnf hc.symm
      obtain ⟨n, hx⟩ := hx
      refine wpIn_loop_rounds n ?_
      induction n generalizing vars h a w with
      | zero => exact hx.elim
      | succ n ihn =>
        refine ih hr0 _ _ x1 h1 _ _ _ _ _ _ hx hi fun e vars h a w hi he => ?_
        cases e with
        | normal => exact ihn _ _ _ _ hi he
        | exit id => exact hq (.exit id) _ _ _ _ hi he
        | ret => exact hq .ret _ _ _ _ hi he
    · cases hc
  | scope c ih =>
    intro hr0 k k' x hc Q' Q vars h a w hx hi hq
    have hp := peelF hx hi
    clear hx hi
    obtain ⟨x, h, hnf, hst, hx, hi⟩ := hp
    rw [← hst] at hc
    simp only [compCode] at hc
    refine wpIn_scope_straight (ih hr0 _ _ _ hc _ _ _ _ _ _ hx hi fun e vars h a w hi he => ?_)
    cases e with
    | normal => exact hq .normal _ _ _ _ hi he
    | exit id => exact hq (.exit id) _ _ _ _ hi he
    | ret => exact hq .ret _ _ _ _ hi he
  | rangeFunc => intro hr0; simp [noR] at hr0
  | _ =>
    intro hr0 k k' x hc
    simp only [compCode] at hc
    cases hc
end
end Go.Proofs.Ytgdcogoacnghkaa.Am
/-
  Loops over functions.
-/
namespace Go.Proofs.Ytgdcogoacnghkaa.Am
set_option linter.unusedSimpArgs false
set_option linter.unusedVariables false
set_option linter.unusedSectionVars false
open Go.RowKit
theorem Shut.mono {m m' : Nat} {w w' : World} (h : Shut m w w') (hm : m' ≤ m) : Shut m' w w' := ⟨h.os, h.tape, h.output, h.size, h.cells, fun b hb => h.low b (by omega)⟩
/-- blocks of calls that are put off lie as they lay -/
def KD (w w' : World) : Prop := ∀ k : Nat, w.heap[k]? = some (.deferred (some [])) → w'.heap[k]? = some (.deferred (some []))
theorem KD.refl (w : World) : KD w w := fun _ h => h
theorem KD.trans {a b c : World} (h : KD a b) (k : KD b c) : KD a c := fun i x => k i (h i x)
theorem KD.bl {B : Nat} {w w' : World} (b : Bl B w w') : KD w w' := fun k h => b.same k _ h rfl
theorem KD.put {l : Nat} {w : World} {r : Loop} {o : Obj} (h : w.heap[l]? = some (.loop r)) : KD w (w.putObj l o) := fun k hk => (World.putObj_heap_other fun e => by subst e; rw [h] at hk; cases hk).trans hk
theorem DefOk.kd {m : Nat} {ds : List Deferred} {w w' : World} (h : DefOk m ds w) (k : KD w w') : DefOk m ds w' := by
  obtain ⟨Ds, h1, h2, h3⟩ := h
  exact ⟨Ds, h1, h2, fun D hD => ⟨(h3 D hD).1, k D (h3 D hD).2⟩⟩
section
variable {P : Program} {B : Nat} {Z0 : Nat → Prop} {vs : List Nat} {N : Nat} {G : Gh} {h : Heap} {w : World}
theorem varsR_ps (hn : vs.Nodup) : ∀ (ps : List Tmp) (va : List Value) (args vars : List PV) (a : Act), args.length = ps.length → va.length = args.length → (∀ (i : Nat) c, args[i]? = some c → ∃ u, va[i]? = some u ∧ VRep G h w D u c) →
    (∀ t ∈ ps, t < a.tmps.size) → VarsR G h w vs vars a →
    VarsR G h w vs (setPs vars (ps.map fun t => vs.idxOf? t) args) { a with tmps := (ps.zip va).foldl (fun t x => t.setIfInBounds x.1 x.2) a.tmps } ∧ ((ps.zip va).foldl (fun t x => t.setIfInBounds x.1 x.2) a.tmps).size = a.tmps.size
  | [], va, args, vars, a, h1, h2, h3, h4, h5 => by
    have : args = [] := List.eq_nil_of_length_eq_zero h1
    subst this
    exact ⟨h5, rfl⟩
  | p :: ps, [], args, vars, a, h1, h2, h3, h4, h5 => by simp at h1 h2; omega
  | p :: ps, v :: va, [], vars, a, h1, h2, h3, h4, h5 => by simp at h1
  | p :: ps, v :: va, c :: args, vars, a, h1, h2, h3, h4, h5 => by
    obtain ⟨u, g1, g2⟩ := h3 0 c rfl
    simp at g1; subst g1
    have hp := VarsR.put (Ext.refl (G := G) (h := h) (w := w)) hn h5 (dst := some p) (v := v) (p := c) (fun t ht => by cases ht; exact h4 _ List.mem_cons_self) g2
    have := varsR_ps hn ps va args (setO vars (vs.idxOf? p) c) (a.put (some p) v) (by simpa using h1) (by simpa using h2) (fun i c hc => by simpa using h3 (i + 1) c (by simpa using hc)) (fun t ht => by rw [put_size]; exact h4 t (List.mem_cons_of_mem _ ht)) hp
    rw [put_size] at this
    exact this
theorem gho_ps : ∀ {ps : List Tmp} {args vars : List PV}, gho vs (setPs vars (ps.map fun t => vs.idxOf? t) args) = gho vs vars
  | [], args, vars => by cases args <;> rfl
  | p :: ps, [], vars => rfl
  | p :: ps, c :: args, vars => by
    show gho vs (setPs (setO vars (vs.idxOf? p) c) (ps.map fun t => vs.idxOf? t) args) = _
    rw [gho_ps]
    exact gho_set (d := some p)
def stc : Option XExit → LoopState × Option Code
  | none => (.ready, none)
  | some .ret => (.done, some .ret)
  | some (.exit id) => (.done, some (.exit id))
  | some .normal => (.done, some .skip)
theorem stc_some (p : Option XExit) : (stc p).2.isNone = p.isNone ∧ (if (stc p).2.isNone then LoopState.ready else LoopState.done) = (stc p).1 ∧ (stc p).1 ≠ .busy := by
  rcases p with _ | e
  · exact ⟨rfl, rfl, by simp [stc]⟩
  · cases e <;> exact ⟨rfl, rfl, by simp [stc]⟩
theorem run_callf {f : FuncId} {vc args : Array Value} (hf : callable P f = true) : (invoke (.fn (.func f) vc) args).run P w = .ok (.enter f (args ++ vc)) w := by
  unfold callable at hf
  split at hf
  · rename_i fn hfn
    simp only [Bool.and_eq_true, Bool.not_eq_true'] at hf
    obtain ⟨h1, h2⟩ := hf
    have h3 : ¬ fn.body = none := fun e => by rw [e] at h2; cases h2
    have h4 : ¬ fn.name = "runtime.NumGoroutine" := by simpa using h1
    simp [invoke, callFunc, hfn, h3, h4]
  · cases hf
/-- what is known in a round: the loop's record is as st -/
def roundA {B : Nat} (W0 : Anch B) (gp : PV) (G1 : Gh) (h1 : Heap) (w1 : World) (l : Nat) (hm1 : W0.m ≤ w1.heap.size) (hl : l < w1.heap.size) (st : Loop) : Anch B :=
  ⟨w1.heap.size, fun _ G' h' w' => Ext G1 h1 w1 G' h' w' ∧ W0.psi gp G' h' w' ∧ w'.heap[l]? = some (.loop st) ∧ KD w1 w' ∧ w1.heap.size ≤ w'.heap.size, fun h => h.2.2.2.2,
    fun h x b => ⟨h.1.trans x, W0.step h.2.1 x b, b.same _ _ h.2.2.1 rfl, h.2.2.2.1.trans (KD.bl b), Nat.le_trans h.2.2.2.2 b.size⟩,
    fun r h s => ⟨h.1.trans (r.cells (by rw [s.size]; exact Nat.le_refl _) s.cells).2, W0.shut r h.2.1 (s.mono hm1), (s.low _ hl).trans h.2.2.1,
      fun k hk => (s.low k (Array.getElem?_eq_some_iff.1 hk).1).trans (h.2.2.2.1 k hk), by rw [s.size]; exact h.2.2.2.2⟩⟩
/-- what the loop knows of the world -/
def loopPsi {B : Nat} (W0 : Anch B) (gp : PV) (G : Gh) (h : Heap) (W1 : World) (l : Nat) (rec : LoopState → Option Code → Loop) : Option XExit → Gh → Heap → World → Prop := fun p G' h' w' =>
  Ext G h W1 G' h' w' ∧ W0.psi gp G' h' w' ∧ w'.heap[l]? = some (.loop (rec (stc p).1 (stc p).2)) ∧ KD W1 w'
/-- ONE ROUND -/
theorem round_sound (hm : P.follows .mixedOrders = true) (hn : vs.Nodup) {ps : Array Tmp} {a b : Code} {k k1 k2 : Nat} {x y : XCode} (ha : compCode P vs N k a = some (stripF x, k1)) (hb : compCode P vs N k1 b = some (stripF y, k2)) (hra : noR a = true) (hrb : noR b = true) (hps : ps.all (Nat.blt · N) = true)
    {W0 : Anch B} {vars : List PV} {act : Act} (i3 : act.tmps.size = N) {W1 : World} {l : Nat} (hl : W0.m ≤ l) {fn : FuncId} {dfs : Nat} {rec : LoopState → Option Code → Loop} (hrec : rec = fun st pe => { state := st, pending := pe, fn, tmps := act.tmps, params := ps, assign := a, body := b, defers := dfs }) (hv : VarsR G h W1 vs vars act)
    {args : List PV} {h1 : Heap} {k0 : Option XExit → Heap → Prop} (hlen : args.length = (ps.toList.map fun t => vs.idxOf? t).length) (hxa : xwp (fns P) x (xasg fun vs2 h2 => xwp (fns P) y (fun e _ h3 => k0 (pend e) h3) vs2 h2) (setPs vars (ps.toList.map fun t => vs.idxOf? t) args) h1)
    {G1 : Gh} {w1 : World} {va : Array Value} (r1 : HRep B Z0 G1 h1 w1) (hψ : loopPsi W0 (gho vs vars) G h W1 l rec none G1 h1 w1) (hva : LRep (VRep G1 h1 w1 D) va args) (n : Nat) : YieldAt (fz none) n P l va w1 (ItR B Z0 (loopPsi W0 (gho vs vars) G h W1 l rec) k0 G1 h1 w1) := by
  obtain ⟨p1, p2, p3, p4⟩ := hψ
  have hlen' : args.length = ps.toList.length := by simpa using hlen
  have hy := run_yield (P := P) (args := va) p3 (by rw [hrec]; have := hva.1; simp [stc]; simp at hlen'; omega)
  rw [hrec] at hy
  simp only [stc] at hy
  refine ⟨fn, _, a, b, hy, roundIn_of_wpIn (F := fz none) trivial ?_⟩
  show a.wpIn (fz (some l)) n P _ _ w1
  have hpsN : ∀ t ∈ ps.toList, t < N := fun t ht => by
    have := Array.all_eq_true'.1 hps t (by simpa using ht)
    simpa [Nat.blt_eq] using this
  have v0 : VarsR G1 h1 w1 vs vars { tmps := act.tmps, defers := [] } := fun k s hk => by
    obtain ⟨v, q1, q2⟩ := hv k s hk
    exact ⟨v, q1, q2.ext p1⟩
  obtain ⟨v1, v2⟩ := varsR_ps hn ps.toList va.toList args vars { tmps := act.tmps, defers := [] } hlen' (by simpa using hva.1) (fun i c hc => by
    obtain ⟨u, q1, q2⟩ := hva.2 i c hc
    exact ⟨u, by simpa using q1, q2⟩) (fun t ht => by have := hpsN t ht; rw [← i3] at this; exact this) v0
  have hfold : ((ps.zip va).foldl (fun tmps x => match x with | (t, a) => tmps.setIfInBounds t a) act.tmps) = (ps.toList.zip va.toList).foldl (fun t x => t.setIfInBounds x.1 x.2) act.tmps := by
    rw [← Array.foldl_toList, Array.toList_zip]
  rw [hfold]
  have hlw : l < w1.heap.size := (Array.getElem?_eq_some_iff.1 p3).1
  have hm1 : W0.m ≤ w1.heap.size := by omega
  have hput : ∀ {w1 : World} {r : Loop} (o : Loop), w1.heap[l]? = some (.loop r) → Shut W0.m w1 (w1.putObj l (.loop o)) := fun o h => Shut.put h rfl hl
  refine code_soundF (W0 := roundA W0 (gho vs vars) G1 h1 w1 l hm1 hlw (rec .ready none)) (FN := fns P) (ρ := some l) hm hn rfl rfl fyI_ok a hra k k1 x ha _ _ _ _ _ _ hxa ⟨G1, r1, v1, by rw [v2]; exact i3, DefOk.nil, Ext.refl, p2, p3, KD.refl _, Nat.le_refl _⟩ ?_
  intro e vars1 h2 a2 w2 hi2 he
  cases e with
  | exit id => exact he.elim
  | ret => exact he.elim
  | normal =>
    obtain ⟨G2, s1, s2, s3, s4, t1, t2, t3, t4, t5⟩ := hi2
    refine ⟨_, run_beginRound t3 (by rw [hrec]), ?_⟩
    show b.wpIn (fz (some l)) n P _ a2 _
    obtain ⟨w2', hw2'⟩ : ∃ w2', w2.putObj l (.loop { rec .ready none with state := .busy }) = w2' := ⟨_, rfl⟩
    have hs : Shut W0.m w2 w2' := by rw [← hw2']; exact hput _ t3
    have hkd : KD w2 w2' := by rw [← hw2']; exact KD.put t3
    obtain ⟨c1, cx⟩ := s1.cells (w' := w2') (by rw [hs.size]; exact Nat.le_refl _) hs.cells
    rw [hw2']
    refine code_soundF (W0 := roundA W0 (gho vs vars) G1 h1 w1 l hm1 hlw { rec .ready none with state := .busy }) (FN := fns P) (ρ := some l) hm hn rfl rfl fyI_ok b hrb k1 k2 y hb _ _ _ _ _ _ he ⟨G2, c1, fun k s hk => by
        obtain ⟨v, q1, q2⟩ := s2 k s hk
        exact ⟨v, q1, q2.ext cx⟩, s3, s4.kd hkd, t1.trans cx, W0.shut s1 t2 hs, by rw [← hw2']; exact World.putObj_heap_same (Array.getElem?_eq_some_iff.1 t3).1, t4.trans hkd, by rw [hs.size]; exact t5⟩ ?_
    intro e vars2 h3 a3 w3 hi3 he3
    obtain ⟨G3, u1, u2, u3, u4, e1, e2, e3, e4, e5⟩ := hi3
    have fin : ∀ p, k0 p h3 → ∃ v w', (Instr.endRound l (stc p).2).run P w3 = .ok v w' ∧ ItR B Z0 (loopPsi W0 (gho vs vars) G h W1 l rec) k0 G1 h1 w1 (.returned v) w' := fun p hk => by
      obtain ⟨f1, f2, f3⟩ := stc_some p
      have hr := run_endRound (P := P) (stc p).2 e3
      obtain ⟨w4, hw4⟩ : ∃ w4, w3.putObj l (.loop (rec (stc p).1 (stc p).2)) = w4 := ⟨_, rfl⟩
      have hs4 : Shut W0.m w3 w4 := by rw [← hw4]; exact hput _ e3
      have hkd4 : KD w3 w4 := by rw [← hw4]; exact KD.put e3
      obtain ⟨d1, dx⟩ := u1.cells (w' := w4) (by rw [hs4.size]; exact Nat.le_refl _) hs4.cells
      refine ⟨_, w4, by rw [hr, ← hw4, f2, hrec], p, h3, G3, by rw [f1], hk, d1, e1.trans dx, ?_, by rw [hs4.size]; exact e5, fun m ds hd => hd.kd (e4.trans hkd4)⟩
      exact ⟨p1.trans (e1.trans dx), W0.shut u1 e2 hs4, by rw [← hw4]; exact World.putObj_heap_same (Array.getElem?_eq_some_iff.1 e3).1, p4.trans (e4.trans hkd4)⟩
    cases e with
    | normal => exact fin none he3
    | ret => exact fin (some .ret) he3
    | exit id => exact fin (some (.exit id)) he3
/-- A LOOP OVER A FUNCTION -/
theorem range_sound (hm : P.follows .mixedOrders = true) (hn : vs.Nodup) {g : Operand} {ps : Array Tmp} {a b : Code} {k k1 k2 : Nat} {x y : XCode} {gd : Opd} (ha : compCode P vs N k a = some (stripF x, k1)) (hb : compCode P vs N k1 b = some (stripF y, k2)) (hg : rdOp vs [] 0 g = some gd) (hra : noR a = true) (hrb : noR b = true) (hps : ps.all (Nat.blt · N) = true)
    {W0 : Anch B} {nn : Nat} {Q' : XPost} {Q : Exit → Act → World → Prop} {vars : List PV} {act : Act} (hx : xwp (fns P) (.rfor gd (ps.toList.map fun t => vs.idxOf? t) x y) Q' vars h) (hi : SInv B Z0 W0 vs N vars h act w) (hq : PostR B Z0 W0 vs N Q' Q) : (Code.rangeFunc g ps a b).wpIn (fz none) nn P Q act w := by
  obtain ⟨G, i1, i2, i3, i4, i5⟩ := hi
  simp only [xwp] at hx
  obtain ⟨f, cap, hv, hcal, hone, hit⟩ := (show IT P _ _ _ _ from hx)
  have hgv := cond_rep hg i2
  rw [hv] at hgv
  unfold D at hgv; unfold VRep at hgv
  obtain ⟨vf, vc, hgv, hf0, hc0⟩ := hgv
  have hvf : vf = #[] := Array.eq_empty_of_size_eq_zero (by simpa using hf0.1)
  subst hvf
  refine wpIn_rangeFunc fun fn hfn => ?_
  obtain ⟨rec, hrec⟩ : ∃ rec : LoopState → Option Code → Loop, rec = fun st pe => { state := st, pending := pe, fn, tmps := act.tmps, params := ps, assign := a, body := b, defers := w.heap.size } := ⟨_, rfl⟩
  obtain ⟨W1, hW1⟩ : ∃ W1, (w.alloc (.deferred (some []))).alloc (.loop (rec .ready none)) = W1 := ⟨_, rfl⟩
  have hL1 : W1.heap[w.heap.size + 1]? = some (.loop (rec .ready none)) := by
    rw [← hW1]; have := World.alloc_heap_new (w.alloc (.deferred (some []))) (.loop (rec .ready none)); rwa [World.size_alloc] at this
  have hK1 : W1.heap[w.heap.size]? = some (.deferred (some [])) := by
    rw [← hW1]; exact (Below.heap_alloc _ _ _ (by simp)).trans (World.alloc_heap_new w _)
  have hsz1 : W1.heap.size = w.heap.size + 2 := by rw [← hW1]; simp
  have hbl1 : Bl B w W1 := by rw [← hW1]; exact ((Bl.refl B w).alloc i1.base _).alloc (by have := i1.base; simp; omega) _
  have hcell1 : ∀ b, isC w b → W1.heap[b]? = w.heap[b]? := fun b hb => by
    rw [← hW1]; exact (Below.heap_alloc _ _ _ (by have := hb.lt; simp; omega)).trans (Below.heap_alloc _ _ _ hb.lt)
  obtain ⟨j1, jx⟩ := i1.cells (w' := W1) hbl1.size hcell1
  have j5 := W0.step i5 jx hbl1
  have hmw := W0.ms i5
  obtain ⟨l, hl⟩ : ∃ l, w.heap.size + 1 = l := ⟨_, rfl⟩
  rw [hl] at hL1
  have hstep : ∀ {p : Option XExit} {G2 : Gh} {h2 : Heap} {w2 : World} {G' : Gh} {h' : Heap} {w' : World}, loopPsi W0 (gho vs vars) G h W1 l rec p G2 h2 w2 → Ext G2 h2 w2 G' h' w' → Bl B w2 w' → loopPsi W0 (gho vs vars) G h W1 l rec p G' h' w' := by
    intro p G2 h2 w2 G' h' w' hp hx hb'
    exact ⟨hp.1.trans hx, W0.step hp.2.1 hx hb', hb'.same _ _ hp.2.2.1 rfl, hp.2.2.2.trans (KD.bl hb')⟩
  have hshut : ∀ {Z1 : Nat → Prop} {p : Option XExit} {G2 : Gh} {h2 : Heap} {w1 w2 : World}, HRep B Z1 G2 h2 w1 → loopPsi W0 (gho vs vars) G h W1 l rec p G2 h2 w1 → Shut W1.heap.size w1 w2 → loopPsi W0 (gho vs vars) G h W1 l rec p G2 h2 w2 := by
    intro Z1 p G2 h2 w1 w2 hr hp hs
    exact ⟨hp.1.trans (hr.cells (by rw [hs.size]; exact Nat.le_refl _) hs.cells).2, W0.shut hr hp.2.1 (hs.mono (by omega)), (hs.low _ (by omega)).trans hp.2.2.1, fun k hk => (hs.low k (Array.getElem?_eq_some_iff.1 hk).1).trans (hp.2.2.2 k hk)⟩
  have hΨ0 : loopPsi W0 (gho vs vars) G h W1 l rec none G h W1 := ⟨Ext.refl, j5, hL1, KD.refl _⟩
  have hv1 : VarsR G h W1 vs vars act := fun k s hk => by
    obtain ⟨v, q1, q2⟩ := i2 k s hk
    exact ⟨v, q1, q2.ext jx⟩
  have hvc : LRep (VRep G h W1 D) vc cap := (lrep_ones hc0 hone).mono fun _ _ q => q.ext jx
  have hY : ∀ {args : List PV} {h1 : Heap} {k0 : Option XExit → Heap → Prop}, (args.length = (ps.toList.map fun t => vs.idxOf? t).length ∧ xwp (fns P) x (xasg fun vs2 h2 => xwp (fns P) y (fun e _ h3 => k0 (pend e) h3) vs2 h2) (setPs vars (ps.toList.map fun t => vs.idxOf? t) args) h1) →
      ∀ {G1 : Gh} {w1 : World} {va : Array Value}, HRep B Z0 G1 h1 w1 → loopPsi W0 (gho vs vars) G h W1 l rec none G1 h1 w1 → LRep (VRep G1 h1 w1 D) va args → ∀ n, YieldAt (fz none) n P l va w1 (ItR B Z0 (loopPsi W0 (gho vs vars) G h W1 l rec) k0 G1 h1 w1) := by
    intro args h1 k0 hy G1 w1 va r1 hψ hva n
    exact round_sound hm hn ha hb hra hrb hps i3 (by omega) hrec hv1 hy.1 hy.2 r1 hψ hva n
  have hcalls := hit B Z0 G W1 vc l (loopPsi W0 (gho vs vars) G h W1 l rec) j1 hvc hstep hshut hY hΨ0
  refine ⟨l, [{ target := .collected w.heap.size, args := #[] }], W1, { target := .fn (.func f) vc, args := #[.func (.yield l) #[] #[]] }, W1, f, #[.func (.yield l) #[] #[]] ++ vc, W1, ?_, ?_, fun _ _ => trivial, ?_, fun e => (by cases e), ?_⟩
  · rw [← hW1, hrec, ← hl]; exact run_enterLoop_outer _ _ _ _ _
  · simp only [resolve, hgv]
    simp [go_sem]
  · exact run_callf hcal
  refine callsIn_fz.2 (Calls.mono hcalls ?_)
  rintro e w' ⟨u, p, h', G', rfl, hK, r1, x1, p1, p2, p3, p4⟩
  have hend := run_endLoop (P := P) p3 (by rw [hrec]; exact (stc_some p).2.2)
  obtain ⟨w4, hw4⟩ : ∃ w4, w'.putObj l (.loop { rec (stc p).1 (stc p).2 with state := .exhausted }) = w4 := ⟨_, rfl⟩
  have hs4 : Shut W0.m w' w4 := by rw [← hw4]; exact Shut.put p3 rfl (by omega)
  have hkd4 : KD w' w4 := by rw [← hw4]; exact KD.put p3
  obtain ⟨d1, dx⟩ := r1.cells (w' := w4) (by rw [hs4.size]; exact Nat.le_refl _) hs4.cells
  have hi' : SInv B Z0 W0 vs N vars h' { act with defers := [{ target := .collected w.heap.size, args := #[] }] ++ act.defers } w4 := by
    refine ⟨G', d1, fun k s hk => ?_, i3, ?_, W0.shut r1 p2 hs4⟩
    · obtain ⟨v, q1, q2⟩ := i2 k s hk
      exact ⟨v, q1, ((q2.ext jx).ext p1).ext dx⟩
    · obtain ⟨Ds, m1, m2, m3⟩ := i4
      refine ⟨w.heap.size :: Ds, List.nodup_cons.2 ⟨fun hm => ?_, m1⟩, by simp [m2], fun D' hD' => ?_⟩
      · have := (Array.getElem?_eq_some_iff.1 (m3 _ hm).2).1; omega
      · rcases List.mem_cons.1 hD' with rfl | hD'
        · exact ⟨hmw, hkd4 _ (p4 _ hK1)⟩
        · exact ⟨(m3 D' hD').1, hkd4 _ (p4 _ (KD.bl hbl1 _ (m3 D' hD').2))⟩
  refine ⟨_, w4, by rw [hend, hw4], ?_⟩
  rw [hrec]
  rcases p with _ | e
  · exact hq .normal _ _ _ _ hi' hK
  · cases e with
    | normal => exact wpIn_skip (hq .normal _ _ _ _ hi' hK)
    | ret => exact wpIn_ret (hq .ret _ _ _ _ hi' hK)
    | exit id => exact wpIn_exit (hq (.exit id) _ _ _ _ hi' hK)
theorem stripF_comp : ∀ {c : Code} {k k' : Nat} {x : XCode}, compCode P vs N k c = some (x, k') → stripF x = x := by
  intro c
  induction c with
  | region id ops d =>
    intro k k' x hc
    simp only [compCode] at hc
    split at hc
    · cases hc; rfl
    · cases hc
  | seq a b iha ihb =>
    intro k k' x hc
    simp only [compCode] at hc
    split at hc
    · rename_i h1
      split at hc
      · rename_i h2
        cases hc
        simp only [stripF, iha h1, ihb h2]
      · cases hc
    · cases hc
  | cond cd a b iha ihb =>
    intro k k' x hc
    simp only [compCode] at hc
    split at hc
    · rename_i h1
      split at hc
      · rename_i h2
        split at hc
        · cases hc
          simp only [stripF, iha h1, ihb h2]
        · cases hc
      · cases hc
    · cases hc
  | block id b ih =>
    intro k k' x hc
    simp only [compCode] at hc
    split at hc
    · rename_i h1; cases hc; simp only [stripF, ih h1]
    · cases hc
  | loop b ih =>
    intro k k' x hc
    simp only [compCode] at hc
    split at hc
    · rename_i h1; cases hc; simp only [stripF, ih h1]
    · cases hc
  | scope b ih => intro k k' x hc; exact ih (show compCode P vs N k b = _ from hc)
  | rangeFunc g ps a b iha ihb =>
    intro k k' x hc
    simp only [compCode] at hc
    split at hc
    · rename_i h1
      split at hc
      · rename_i h2
        split at hc
        · split at hc
          · cases hc
            simp only [stripF, iha h1, ihb h2]
          · cases hc
        · cases hc
      · cases hc
    · cases hc
  | skip => intro k k' x hc; simp only [compCode, Option.some.injEq, Prod.mk.injEq] at hc; obtain ⟨rfl, _⟩ := hc; rfl
  | label => intro k k' x hc; simp only [compCode, Option.some.injEq, Prod.mk.injEq] at hc; obtain ⟨rfl, _⟩ := hc; rfl
  | exit => intro k k' x hc; simp only [compCode, Option.some.injEq, Prod.mk.injEq] at hc; obtain ⟨rfl, _⟩ := hc; rfl
  | ret => intro k k' x hc; simp only [compCode, Option.some.injEq, Prod.mk.injEq] at hc; obtain ⟨rfl, _⟩ := hc; rfl
  | _ => intro k k' x hc; simp only [compCode] at hc; cases hc
/-- CODE of a function, loops over functions and all -/
theorem code_sound {W0 : Anch B} {nn : Nat} (hm : P.follows .mixedOrders = true) (hn : vs.Nodup) : ∀ (c : Code) (k k' : Nat) (x : XCode), compCode P vs N k c = some (x, k') → ∀ (Q' : XPost) (Q : Exit → Act → World → Prop) (vars : List PV) (h : Heap) (a : Act) (w : World),
    xwp (fns P) x Q' vars h → SInv B Z0 W0 vs N vars h a w → PostR B Z0 W0 vs N Q' Q → c.wpIn (fz none) nn P Q a w := by
  intro c
  induction c with
  | skip =>
    intro k k' x hc Q' Q vars h a w hx hi hq
    simp only [compCode, Option.some.injEq, Prod.mk.injEq] at hc
    obtain ⟨rfl, rfl⟩ := hc
    exact wpIn_skip (hq .normal _ _ _ _ hi hx)
  | label l =>
    intro k k' x hc Q' Q vars h a w hx hi hq
    simp only [compCode, Option.some.injEq, Prod.mk.injEq] at hc
    obtain ⟨rfl, rfl⟩ := hc
    exact wpIn_label (hq .normal _ _ _ _ hi hx)
  | exit id =>
    intro k k' x hc Q' Q vars h a w hx hi hq
    simp only [compCode, Option.some.injEq, Prod.mk.injEq] at hc
    obtain ⟨rfl, rfl⟩ := hc
    exact wpIn_exit (hq (.exit id) _ _ _ _ hi hx)
  | ret =>
    intro k k' x hc Q' Q vars h a w hx hi hq
    simp only [compCode, Option.some.injEq, Prod.mk.injEq] at hc
    obtain ⟨rfl, rfl⟩ := hc
    exact wpIn_ret (hq .ret _ _ _ _ hi hx)
  | region id ops d =>
    intro k k' x hc Q' Q vars h a w hx hi hq
    simp only [compCode] at hc
    split at hc
    · rename_i xs k1 hc0
      cases hc
      obtain ⟨hsi, hx⟩ := hx
      rw [show ops = ops.toList.toArray by simp]
      cases d with
      | false => exact plain_sound rfl rfl fyI_ok hn hc0 hsi hx (fun st a w hi hq' => hq .normal _ _ _ _ hi hq') hi
      | true => exact drawn_sound hm hn hc0 hsi hx (fun st a w hi hq' => hq .normal _ _ _ _ hi hq') hi
    · cases hc
  | seq c1 c2 ih1 ih2 =>
    intro k k' x hc Q' Q vars h a w hx hi hq
    simp only [compCode] at hc
    split at hc
    · rename_i x1 k1 h1
      split at hc
      · rename_i x2 k2 h2
        cases hc
        refine wpIn_seq (ih1 _ _ _ h1 _ _ _ _ _ _ hx hi fun e vars h a w hi he => ?_)
        cases e with
        | normal => exact ih2 _ _ _ h2 _ _ _ _ _ _ he hi hq
        | exit id => exact hq (.exit id) _ _ _ _ hi he
        | ret => exact hq .ret _ _ _ _ hi he
      · cases hc
    · cases hc
  | cond cd c1 c2 ih1 ih2 =>
    intro k k' x hc Q' Q vars h a w hx hi hq
    simp only [compCode] at hc
    split at hc
    · rename_i x1 k1 h1
      split at hc
      · rename_i x2 k2 h2
        split at hc
        · rename_i dd hdd
          cases hc
          obtain ⟨G, i1, i2, i3⟩ := id hi
          have hr := cond_rep hdd i2
          simp only [xwp] at hx
          split at hx
          · rename_i he
            rw [he] at hr
            exact wpIn_cond_true (rep_bool hr) (ih1 _ _ _ h1 _ _ _ _ _ _ hx hi hq)
          · rename_i he
            rw [he] at hr
            exact wpIn_cond_false (rep_bool hr) (ih2 _ _ _ h2 _ _ _ _ _ _ hx hi hq)
          · exact hx.elim
        · cases hc
      · cases hc
    · cases hc
  | block id c ih =>
    intro k k' x hc Q' Q vars h a w hx hi hq
    simp only [compCode] at hc
    split at hc
    · rename_i x1 k1 h1
      cases hc
      refine wpIn_block (ih _ _ _ h1 _ _ _ _ _ _ hx hi fun e vars h a w hi he => ?_)
      cases e with
      | normal => exact hq .normal _ _ _ _ hi he
      | exit i =>
        simp only [xin] at he
        show Exit.inBlock id Q (.exit i) a w
        simp only [Exit.inBlock]
        split at he
        · rename_i e; rw [if_pos e]; exact hq .normal _ _ _ _ hi he
        · rename_i e; rw [if_neg e]; exact hq (.exit i) _ _ _ _ hi he
      | ret => exact hq .ret _ _ _ _ hi he
    · cases hc
  | loop c ih =>
    intro k k' x hc Q' Q vars h a w hx hi hq
    simp only [compCode] at hc
    split at hc
    · rename_i x1 k1 h1
      cases hc
      obtain ⟨n, hx⟩ := hx
      refine wpIn_loop_rounds n ?_
      induction n generalizing vars h a w with
      | zero => exact hx.elim
      | succ n ihn =>
        refine ih _ _ _ h1 _ _ _ _ _ _ hx hi fun e vars h a w hi he => ?_
        cases e with
        | normal => exact ihn _ _ _ _ hi he
        | exit id => exact hq (.exit id) _ _ _ _ hi he
        | ret => exact hq .ret _ _ _ _ hi he
    · cases hc
  | scope c ih =>
    intro k k' x hc Q' Q vars h a w hx hi hq
    simp only [compCode] at hc
    refine wpIn_scope_straight (ih _ _ _ hc _ _ _ _ _ _ hx hi fun e vars h a w hi he => ?_)
    cases e with
    | normal => exact hq .normal _ _ _ _ hi he
    | exit id => exact hq (.exit id) _ _ _ _ hi he
    | ret => exact hq .ret _ _ _ _ hi he
  | rangeFunc g ps a b iha ihb =>
    intro k k' x hc Q' Q vars h act w hx hi hq
    simp only [compCode] at hc
    split at hc
    · rename_i x1 k1 h1
      split at hc
      · rename_i x2 k2 h2
        split at hc
        · rename_i gd hgd
          split at hc
          · rename_i hcond
            cases hc
            simp only [Bool.and_eq_true] at hcond
            exact range_sound hm hn (by rw [stripF_comp h1]; exact h1) (by rw [stripF_comp h2]; exact h2) hgd hcond.1.1 hcond.1.2 hcond.2 hx hi hq
          · cases hc
        · cases hc
      · cases hc
    · cases hc
  | _ =>
    intro k k' x hc
    simp only [compCode] at hc
    cases hc
end
end Go.Proofs.Ytgdcogoacnghkaa.Am
/-
  A function: what its body's end gives is what a call gives.
-/
namespace Go.Proofs.Ytgdcogoacnghkaa.Am
set_option linter.unusedSimpArgs false
set_option linter.unusedVariables false
set_option linter.unusedSectionVars false
open Go.RowKit
theorem ecells_na {x : PV} (h : ∀ cs, x ≠ .agg cs) : ecells x = [x] := by
  cases x <;> first | rfl | exact absurd rfl (h _)
theorem comps_nt {x : PV} (h : ∀ cs, x ≠ .tup cs) : comps x = [x] := by
  cases x <;> first | rfl | exact absurd rfl (h _)
theorem rvC_na (lk : Look) (c : PV) : (∀ cs, rvC lk c ≠ .agg cs) ∧ ∀ cs, rvC lk c ≠ .tup cs := by
  cases c <;> simp only [rvC] <;> (try (refine ⟨fun cs e => ?_, fun cs e => ?_⟩ <;> cases e; done))
  · split
    · split
      · split <;> (refine ⟨fun cs e => ?_, fun cs e => ?_⟩ <;> cases e)
      · refine ⟨fun cs e => ?_, fun cs e => ?_⟩ <;> cases e
    · refine ⟨fun cs e => ?_, fun cs e => ?_⟩ <;> cases e
  · split
    · split <;> (refine ⟨fun cs e => ?_, fun cs e => ?_⟩ <;> cases e)
    · refine ⟨fun cs e => ?_, fun cs e => ?_⟩ <;> cases e
theorem rvE_eq (lk : Look) (c : PV) : (∃ cs, c = .agg cs) ∨ ((∀ cs, c ≠ .agg cs) ∧ rvE lk c = rvC lk c) := by
  cases c
  case agg cs => exact .inl ⟨cs, rfl⟩
  all_goals exact .inr (And.intro (fun cs e => absurd e (by simp)) rfl)
theorem rcells_rv (lk : Look) (q : PV) : rcells (rvV lk q) = (rcells q).map (rvC lk) := by
  have h1 : ∀ c, ecells (rvE lk c) = (ecells c).map (rvC lk) := fun c => by
    rcases rvE_eq lk c with ⟨cs, rfl⟩ | ⟨h, e⟩
    · rfl
    · rw [e, ecells_na (rvC_na lk c).1, ecells_na h]; rfl
  have h2 : ∀ c, comps (rvE lk c) = [rvE lk c] := fun c => by
    rcases rvE_eq lk c with ⟨cs, rfl⟩ | ⟨h, e⟩
    · rfl
    · rw [e, comps_nt (rvC_na lk c).2]
  unfold rcells
  cases q <;> simp only [rvV]
  case tup vs => simp only [comps, List.flatMap_map, List.map_flatMap, h1]
  all_goals
    rw [h2]
    simp only [comps, List.flatMap_cons, List.flatMap_nil, List.append_nil, h1]
section
variable {P : Program} {B : Nat} {Z0 : Nat → Prop} {G G' : Gh} {h h' : Heap} {w w' : World}
/-- the number of the array that goes out at place p -/
def jOut (cells : List PV) (lk : Look) (p : Nat) : Option Nat := match cells[p]? with
  | some (.own k g gl s o l) => (match rvC lk (.own k g gl s o l) with
    | .uslc _ => some k
    | _ => none)
  | _ => none
def Gh.out (G : Gh) (J : Nat → Option Nat) : Gh :=
  { β := fun key => match J key.1 with | some k => G.β (k, key.2) | none => 0
    R := fun key => match J key.1 with | some k => G.R (k, key.2) | none => False
    γ := fun key => match J key.1 with | some k => G.γ (k, key.2) | none => 0
    σ := fun key => match J key.1 with | some k => G.σ (k, key.2) | none => 0
    Z := G.Z }
theorem rvC_uslc {lk : Look} {c : PV} {es : List PV} (h : rvC lk c = .uslc es) : ∃ k g s ver, c = .own k g es.length s 0 es.length ∧ lk k = (g, .arr s ver false es) ∧ es.all noRefE = true := by
  cases c <;> simp only [rvC] at h <;> (try (cases h; done))
  case mapv k g =>
    split at h
    · split at h <;> cases h
    · cases h
  case own k g gl s o l =>
    split at h
    · rename_i g' s' ver fr es' hlk
      split at h
      · rename_i hc
        obtain ⟨rfl, rfl, rfl, rfl, rfl, h7⟩ := hc
        split at h
        · cases h
        · rename_i hfr
          obtain rfl : fr = false := by simpa using hfr
          cases h
          exact ⟨k, _, _, ver, rfl, hlk, h7⟩
      · cases h
    · cases h
theorem outIds_nodup : ∀ {cells : List PV}, (cells.filterMap fun c => match c with | .own k _ _ _ _ _ => some k | _ => none).Nodup → ∀ {i j k g gl s o l g' gl' s' o' l' : Nat}, cells[i]? = some (.own k g gl s o l) → cells[j]? = some (.own k g' gl' s' o' l') → i = j
  | [], _, i, j, _, _, _, _, _, _, _, _, _, _, _, hi, _ => by simp at hi
  | c :: cells, hn, i, j, k, g, gl, s, o, l, g', gl', s', o', l', hi, hj => by
    have hin : ∀ {m g gl s o l : Nat}, cells[m]? = some (.own k g gl s o l) → k ∈ cells.filterMap fun c => match c with | .own k _ _ _ _ _ => some k | _ => none := fun hm => List.mem_filterMap.2 ⟨_, List.mem_of_getElem? hm, rfl⟩
    have tail : (cells.filterMap fun c => match c with | .own k _ _ _ _ _ => some k | _ => none).Nodup := by
      rw [List.filterMap_cons] at hn
      split at hn
      · exact hn
      · exact (List.nodup_cons.1 hn).2
    cases i with
    | zero =>
      cases j with
      | zero => rfl
      | succ j =>
        exfalso
        simp at hi; subst hi
        simp only [List.filterMap_cons] at hn
        exact (List.nodup_cons.1 hn).1 (hin (by simpa using hj))
    | succ i =>
      cases j with
      | zero =>
        exfalso
        simp at hj; subst hj
        simp only [List.filterMap_cons] at hn
        exact (List.nodup_cons.1 hn).1 (hin (by simpa using hi))
      | succ j =>
        have := outIds_nodup tail (show cells[i]? = some _ by simpa using hi) (show cells[j]? = some _ by simpa using hj)
        omega
theorem szsOk_get {szs : List Nat} : ∀ {cells : List PV} {q : Nat}, szsOk szs q cells = true → ∀ {i k g gl s o l : Nat}, cells[i]? = some (.own k g gl s o l) → szs.getD (q + i) 0 = s
  | [], _, _, i, _, _, _, _, _, _, hi => by simp at hi
  | c :: cells, q, h, i, k, g, gl, s, o, l, hi => by
    have tail : szsOk szs (q + 1) cells = true := by
      cases c <;> simp only [szsOk, Bool.and_eq_true] at h <;> first | exact h | exact h.2
    cases i with
    | zero =>
      simp at hi; subst hi
      simp only [szsOk, Bool.and_eq_true, beq_iff_eq] at h
      exact h.1
    | succ i =>
      have := szsOk_get tail (i := i) (by simpa using hi)
      rw [← this, show q + (i + 1) = q + 1 + i by omega]
theorem own_mlit (hr : HRep B Z0 G h w) {u : Value} {k g : Nat} {ks cs : List PV} (hh : h[k]? = some (g, .mp true ks cs)) (hp : cs.all (fun c => pureC c || fn0 c) = true) (hv : VRep G h w D u (.mapv k g)) : PR G.Z w u (.mlit ks cs) := by
  obtain ⟨rfl, hl, es, hb, hK, hvs⟩ := map_at hr hh hv
  have hob := hr.ob k g _ hh
  unfold ORep at hob
  have hZ : G.Z (G.β (root k)) := hr.fz k g _ hh rfl none hob.1
  have h1 : ∀ i, i < cs.length → ∃ N, ∀ c, cs[i]? = some c → ∃ e, es[i]? = some e ∧ PRep G.Z w N e.val c := fun i hi => by
    obtain ⟨e, e1, e2⟩ := hvs i _ (List.getElem?_eq_getElem hi)
    have hc := List.all_eq_true.1 hp _ (List.getElem_mem hi)
    have : ∃ N, PRep G.Z w N e.val cs[i] := by
      generalize cs[i] = c at hc e2
      by_cases hpc : pureC c = true
      · exact vrep_pure hpc ((mrep_of (fun ns e => by subst e; simp [pureC] at hpc)).1 e2)
      · have hf : fn0 c = true := by simpa [hpc] using hc
        unfold fn0 at hf
        split at hf
        · unfold MRep at e2
          obtain ⟨vs, us, h1, h2, h3⟩ := rep_fn e2
          refine ⟨1, ?_⟩
          unfold PRep
          have hvs : vs = #[] := Array.eq_empty_of_size_eq_zero h2.1
          have hus : us = #[] := Array.eq_empty_of_size_eq_zero h3.1
          rw [h1, hvs, hus]
        · cases hf
    obtain ⟨N, hN⟩ := this
    exact ⟨N, fun c hc => by rw [List.getElem?_eq_getElem hi] at hc; cases hc; exact ⟨e, e1, hN⟩⟩
  obtain ⟨N, hN⟩ := bound_all (Q := fun i N => ∀ c, cs[i]? = some c → ∃ e, es[i]? = some e ∧ PRep G.Z w N e.val c) (fun i n m hnm hq c hc => by
    obtain ⟨e, g1, g2⟩ := hq c hc
    exact ⟨e, g1, g2.le hnm⟩) cs.length h1
  refine ⟨N + 1, ?_⟩
  unfold PRep
  exact ⟨_, es, rfl, hZ, hb, hK, hl, fun i c hc => hN i (List.getElem?_eq_some_iff.1 hc).1 c hc⟩
/-- the objects of a result, from those of the body -/
theorem out_rep (hr : HRep B Z0 G h w) {q : PV} {szs : List Nat} (hn : nodupN (outIds q) = true) (hsz : szsOk szs 0 (rcells q) = true) :
    HRep B Z0 (G.out (jOut (rcells q) (lkOf h []))) (resH szs (rvV (lkOf h []) q)) w ∧
    ∀ {n : Nat} {u : Value} {p : Nat} {c : PV}, (rcells q)[p]? = some c → VRep G h w n u c → VRep (G.out (jOut (rcells q) (lkOf h []))) (resH szs (rvV (lkOf h []) q)) w n u (thC (resK szs p) (fun _ => 1) (rvC (lkOf h []) c)) := by
  have hnd := nodupN_spec hn
  have hJ : ∀ {p k}, jOut (rcells q) (lkOf h []) p = some k → ∃ g s ver es, (rcells q)[p]? = some (.own k g es.length s 0 es.length) ∧ rvC (lkOf h []) (.own k g es.length s 0 es.length) = .uslc es ∧ h[k]? = some (g, .arr s ver false es) ∧ es.all noRefE = true := fun {p k} hj => by
    unfold jOut at hj
    split at hj
    · rename_i k' g gl s o l hc
      split at hj
      · rename_i es he
        cases hj
        obtain ⟨k2, g2, s2, ver, h1, h2, h3⟩ := rvC_uslc he
        cases h1
        exact ⟨_, _, ver, es, hc, he, lk_some h2 (by simp), h3⟩
      · cases hj
    · cases hj
  have hJ' : ∀ {p es}, (rcells (rvV (lkOf h []) q))[p]? = some (.uslc es) → ∃ k, jOut (rcells q) (lkOf h []) p = some k := fun {p es} hp => by
    rw [rcells_rv, List.getElem?_map] at hp
    obtain ⟨c, hc, he⟩ := Option.map_eq_some_iff.1 hp
    obtain ⟨k, g, s, ver, rfl, _, _⟩ := rvC_uslc he
    refine ⟨k, ?_⟩
    unfold jOut
    rw [hc]
    simp only
    rw [he]
  have hres : ∀ {p k}, jOut (rcells q) (lkOf h []) p = some k → ∀ {es g s}, (rcells q)[p]? = some (.own k g es.length s 0 es.length) → rvC (lkOf h []) (.own k g es.length s 0 es.length) = .uslc es → (resH szs (rvV (lkOf h []) q))[p]? = some (1, .arr s 0 false es) := fun {p k} hj {es g s} hc he => by
    have := resH_arr (szs := szs) (r := rvV (lkOf h []) q) (p := p) (es := es) (by rw [rcells_rv, List.getElem?_map, hc]; simp [he])
    rw [this]
    have := szsOk_get hsz hc
    rw [Nat.zero_add] at this
    rw [this]
  have hnew : ∀ {p k y}, jOut (rcells q) (lkOf h []) p = some k → (G.out (jOut (rcells q) (lkOf h []))).β (p, y) = G.β (k, y) ∧ ((G.out (jOut (rcells q) (lkOf h []))).R (p, y) ↔ G.R (k, y)) ∧ (G.out (jOut (rcells q) (lkOf h []))).γ (p, y) = G.γ (k, y) ∧ (G.out (jOut (rcells q) (lkOf h []))).σ (p, y) = G.σ (k, y) := fun {p k y} hj => by
    refine ⟨?_, ?_, ?_, ?_⟩ <;> simp only [Gh.out, hj]
  have hRJ : ∀ {p y}, (G.out (jOut (rcells q) (lkOf h []))).R (p, y) → ∃ k, jOut (rcells q) (lkOf h []) p = some k := fun {p y} hR => by
    cases hj : jOut (rcells q) (lkOf h []) p with
    | some k => exact ⟨k, rfl⟩
    | none => simp only [Gh.out, hj] at hR
  have hob : ∀ {p g o}, (resH szs (rvV (lkOf h []) q))[p]? = some (g, o) → o = .dead ∨ ∃ k g0 s ver es, jOut (rcells q) (lkOf h []) p = some k ∧ h[k]? = some (g0, .arr s ver false es) ∧ es.all noRefE = true ∧ g = 1 ∧ o = .arr s 0 false es := fun {p g o} ho => by
    rcases resH_ob ho with rfl | ⟨es, h1, rfl, h2⟩
    · exact .inl rfl
    · obtain ⟨k, hk⟩ := hJ' h1
      obtain ⟨g0, s, ver, es', q1, q2, q3, q4⟩ := hJ hk
      rw [hres hk q1 q2] at ho
      cases ho
      exact .inr ⟨k, g0, s, ver, es', hk, q3, q4, rfl, rfl⟩
  refine ⟨⟨hr.base, hr.zo, hr.zb, ?_, ?_, ?_, ?_, ?_⟩, ?_⟩
  · rintro ⟨p, y⟩ hR
    obtain ⟨k, hk⟩ := hRJ hR
    obtain ⟨a1, a2, _⟩ := hnew (y := y) hk
    rw [a1]; exact hr.lv _ (a2.1 hR)
  · rintro p g o ho hlv y hR
    obtain ⟨k, hk⟩ := hRJ hR
    obtain ⟨a1, a2, _⟩ := hnew (y := y) hk
    obtain ⟨g0, s, ver, es', q1, q2, q3, q4⟩ := hJ hk
    rw [a1]
    exact hr.nz k _ _ q3 rfl y (a2.1 hR)
  · intro p g o ho hfo y hR
    rcases hob ho with rfl | ⟨_, _, _, _, _, _, _, _, _, rfl⟩ <;> cases hfo
  · rintro ⟨p1, y1⟩ ⟨p2, y2⟩ h1 h2 he
    obtain ⟨k1, hk1⟩ := hRJ h1
    obtain ⟨k2, hk2⟩ := hRJ h2
    obtain ⟨a1, a2, _⟩ := hnew (y := y1) hk1
    obtain ⟨b1, b2, _⟩ := hnew (y := y2) hk2
    have := hr.inj _ _ (a2.1 h1) (b2.1 h2) (by rw [← a1, ← b1]; exact he)
    simp only [Prod.mk.injEq] at this
    obtain ⟨rfl, rfl⟩ := this
    obtain ⟨g0, s, ver, es', q1, _⟩ := hJ hk1
    obtain ⟨g0', s', ver', es'', r1, _⟩ := hJ hk2
    rw [outIds_nodup hnd q1 r1]
  · rintro p g o ho
    rcases hob ho with rfl | ⟨k, g0, s, ver, es, hk, hh, hnr, rfl, rfl⟩
    · trivial
    · have ho' := hr.ob k _ _ hh
      unfold ORep at ho' ⊢
      obtain ⟨a1, a2, a3, a4⟩ := hnew (y := none) hk
      rw [show (G.out (jOut (rcells q) (lkOf h []))).β (root p) = G.β (root k) from a1, show (G.out (jOut (rcells q) (lkOf h []))).γ (root p) = G.γ (root k) from a3]
      obtain ⟨o1, o2, o3, o4, o5⟩ := ho'
      refine ⟨o1, o2, o3, fun hR => ?_, fun hR => o5 fun y => hR (a2.2 y)⟩
      obtain ⟨us, T, o6, o7, o8⟩ := o4 (a2.1 hR)
      refine ⟨us, T, o6, o7, fun i e he => ?_⟩
      obtain ⟨o9, o10⟩ := o8 i e he
      refine ⟨o9, fun j c hc => ?_⟩
      obtain ⟨u, o11, o12⟩ := o10 j c hc
      refine ⟨u, o11, ?_⟩
      have hnr' : (pureC c || isU c) = true := List.all_eq_true.1 (show (ecells e).all (fun c => pureC c || isU c) = true from List.all_eq_true.1 hnr e (List.mem_of_getElem? he)) c (List.mem_of_getElem? hc)
      cases c
      case uslc ns =>
        unfold CRep NRep at o12 ⊢
        obtain ⟨b1, b2, b3, b4⟩ := hnew (y := some (i, j)) hk
        rw [b1, b2, b3, b4]
        exact o12
      case nils =>
        unfold CRep at o12 ⊢
        obtain rfl := rep_nils o12.2
        exact ⟨rfl, mk_nils⟩
      all_goals
        unfold CRep at o12 ⊢
        exact ⟨o12.1, prep_vrep o12.1 (vrep_pure (G := G) (h := h) (by simpa [isU] using hnr') o12.2)⟩
  · intro n u p c hp hc
    have hundef : ∀ {x}, x = PV.undef → VRep (G.out (jOut (rcells q) (lkOf h []))) (resH szs (rvV (lkOf h []) q)) w n u x := fun e => by rw [e]; exact mk_undef
    cases c <;> simp only [rvC] <;> (try exact hundef rfl)
    case bool => simp only [thC]; obtain rfl := rep_bool hc; exact mk_bool
    case int => simp only [thC]; obtain rfl := rep_int hc; exact mk_int
    case str => simp only [thC]; obtain rfl := rep_str hc; exact mk_str
    case nils => simp only [thC]; obtain rfl := rep_nils hc; exact mk_nils
    case lit => simp only [thC]; cases n <;> (unfold VRep at hc ⊢; exact hc)
    case slc es => simp only [thC]; exact mk_slc (rep_slc (G := G) (h := h) hc)
    case mlit ks vs => simp only [thC]; exact mk_mlit (rep_mlit (G := G) (h := h) hc)
    case mapv k g =>
      split
      · rename_i g' ks vs hlk
        split
        · rename_i hcond
          obtain ⟨rfl, hpm⟩ := hcond
          simp only [thC]
          have hc' := VRep.cell (m := D) (by refine ⟨?_, ?_, ?_⟩ <;> intros <;> simp) hc
          exact mk_mlit (own_mlit hr (lk_some hlk (by simp)) hpm hc')
        · exact hundef rfl
      · exact hundef rfl
    case own k g gl s o l =>
      split
      · rename_i g' s' ver fr es hlk
        split
        · rename_i hcond
          obtain ⟨rfl, rfl, rfl, rfl, rfl, hnr⟩ := hcond
          split
          · rename_i hfr
            subst hfr
            simp only [thC]
            have hh := lk_some hlk (by simp)
            have hc' := VRep.cell (m := D) (by refine ⟨?_, ?_, ?_⟩ <;> intros <;> simp) hc
            exact mk_slc (rep_slc (G := G) (h := h) (own_slc2 hr hh hnr hc'))
          rename_i hfr
          obtain rfl : fr = false := by simpa using hfr
          have hrv : rvC (lkOf h []) (.own k g' es.length s' 0 es.length) = .uslc es := by simp only [rvC, hlk]; simp [hnr]
          have hj : jOut (rcells q) (lkOf h []) p = some k := by
            unfold jOut; rw [hp]; simp only; rw [hrv]
          have hh := lk_some hlk (by simp)
          have hq := hres hj hp hrv
          simp only [thC]
          rw [show (resK szs p).1 = p from rfl, show (resK szs p).2 = s' from by
            have := szsOk_get hsz hp
            rw [Nat.zero_add] at this
            exact this]
          have hc' := VRep.cell (m := D) (by refine ⟨?_, ?_, ?_⟩ <;> intros <;> simp) hc
          refine VRep.cell (n := D) (by refine ⟨?_, ?_, ?_⟩ <;> intros <;> simp) ?_
          unfold D at hc' ⊢; unfold VRep at hc' ⊢
          obtain ⟨a, c, q0, q1, q2, q3, gn, ob, q4, q5, q6⟩ := hc'
          refine ⟨a, c, q0, q1, q2, q3, _, _, hq, Nat.le_refl _, fun _ sz vr fr es' e9 => ?_⟩
          cases e9
          refine ⟨Nat.le_refl _, fun _ => ?_⟩
          rw [hh] at q4
          cases q4
          obtain ⟨_, q7⟩ := q6 rfl _ _ _ _ rfl
          obtain ⟨q8, q9, q10⟩ := q7 rfl
          obtain ⟨a1, a2, a3, a4⟩ := hnew (y := none) hj
          rw [show (G.out (jOut (rcells q) (lkOf h []))).β (root p) = G.β (root k) from a1, show (G.out (jOut (rcells q) (lkOf h []))).γ (root p) = G.γ (root k) from a3]
          refine ⟨q8, fun hR => ?_, fun hR => q10 fun y => hR (a2.2 y)⟩
          obtain ⟨f, f1, f2, f3, f4⟩ := q9 (a2.1 hR)
          exact ⟨f, f1, f2, f3, f4⟩
        · exact hundef rfl
      · exact hundef rfl
end
end Go.Proofs.Ytgdcogoacnghkaa.Am
/-
  .. the same, to the end: FUNCTIONS.
-/
namespace Go.Proofs.Ytgdcogoacnghkaa.Am
set_option linter.unusedSimpArgs false
set_option linter.unusedVariables false
set_option linter.unusedSectionVars false
open Go.RowKit
theorem thC_na (kz : Nat × Nat) (gen : Nat → Nat) (c : PV) : (∀ cs, thC kz gen c ≠ .agg cs) ∧ (∀ cs, thC kz gen c ≠ .tup cs) ∧ ∀ f a b, thC kz gen c ≠ .fn f a b := by
  cases c <;> simp [thC]
theorem thComp_na {ks : Nat → Nat × Nat} {gen : Nat → Nat} {q : Nat} {c : PV} (h : ∀ cs, c ≠ .agg cs) : thComp ks gen q c = thC (ks q) gen c := by
  cases c <;> first | rfl | exact absurd rfl (h _)
section
variable {P : Program} {B : Nat} {Z0 : Nat → Prop} {G G' : Gh} {h h' : Heap} {w w' : World}
theorem comp_rep {lk : Look} {ks : Nat → Nat × Nat} {gen : Nat → Nat} {cells : List PV} (hc : ∀ {n : Nat} {u : Value} {p : Nat} {c : PV}, cells[p]? = some c → VRep G h w n u c → VRep G' h' w n u (thC (ks p) gen (rvC lk c))) {n q : Nat} {v : Value} {c : PV}
    (hq : ∀ (i : Nat) x, (ecells c)[i]? = some x → cells[q + i]? = some x) (hv : VRep G h w n v c) (m : Nat) : VRep G' h' w (m + 1) v (thComp ks gen q (rvE lk c)) := by
  rcases rvE_eq lk c with ⟨cs, rfl⟩ | ⟨hn, e⟩
  · simp only [rvE, thComp]
    cases n with
    | zero => unfold VRep at hv; exact hv.elim
    | succ n =>
      unfold VRep at hv ⊢
      obtain ⟨vs, rfl, h1, h2⟩ := hv
      refine ⟨vs, rfl, by rw [thCs_len]; simpa using h1, fun i x hi => ?_⟩
      rw [thCs_get, List.getElem?_map] at hi
      obtain ⟨c1, hc1, rfl⟩ := Option.map_eq_some_iff.1 hi
      obtain ⟨c0, hc0, rfl⟩ := Option.map_eq_some_iff.1 hc1
      obtain ⟨u, h3, h4⟩ := h2 i c0 hc0
      exact ⟨u, h3, (hc (hq i c0 hc0) h4).cell (thC_na _ _ _)⟩
  · rw [e, thComp_na (rvC_na lk c).1]
    exact (hc (hq 0 c (by rw [ecells_na hn]; rfl)) hv).cell (thC_na _ _ _)
theorem comps_rep {lk : Look} {ks : Nat → Nat × Nat} {gen : Nat → Nat} {cells : List PV} (hc : ∀ {n : Nat} {u : Value} {p : Nat} {c : PV}, cells[p]? = some c → VRep G h w n u c → VRep G' h' w n u (thC (ks p) gen (rvC lk c))) {n : Nat} (m : Nat) : ∀ {vs : List PV} {q : Nat} {U : Nat → Option Value},
    (∀ (i : Nat) x, (vs.flatMap ecells)[i]? = some x → cells[q + i]? = some x) → (∀ (i : Nat) p, vs[i]? = some p → ∃ u, U i = some u ∧ VRep G h w n u p) → ∀ (i : Nat) p, (thComps ks gen q (vs.map (rvE lk)))[i]? = some p → ∃ u, U i = some u ∧ VRep G' h' w (m + 1) u p
  | [], q, U, _, _, i, p, hp => by simp [thComps] at hp
  | c :: vs, q, U, hq, hU, i, p, hp => by
    simp only [List.map_cons, thComps] at hp
    cases i with
    | zero =>
      simp at hp; subst hp
      obtain ⟨u, h1, h2⟩ := hU 0 c rfl
      refine ⟨u, h1, comp_rep hc (fun i x hx => hq i x ?_) h2 m⟩
      rw [List.flatMap_cons, List.getElem?_append_left (List.getElem?_eq_some_iff.1 hx).1]; exact hx
    | succ i =>
      have hlen : (ecells (rvE lk c)).length = (ecells c).length := by
        rcases rvE_eq lk c with ⟨cs, rfl⟩ | ⟨hn, e⟩
        · simp [rvE, ecells]
        · rw [e, ecells_na (rvC_na lk c).1, ecells_na hn]; rfl
      rw [hlen] at hp
      refine comps_rep hc m (vs := vs) (q := q + (ecells c).length) (U := fun i => U (i + 1)) (fun i x hx => ?_) (fun i p hp => hU (i + 1) p (by simpa using hp)) i p (by simpa using hp)
      rw [Nat.add_assoc]
      refine hq _ x ?_
      rw [List.flatMap_cons, List.getElem?_append_right (by omega), Nat.add_sub_cancel_left]; exact hx
/-- results, taken out of their slots -/
theorem mapM_run {α : Type} {F : α → Sem Value} : ∀ (l : List α) (us : Nat → Value), (∀ i a, l[i]? = some a → (F a).run P w = .ok (us i) w) → (l.mapM F).run P w = .ok ((List.range l.length).map us) w
  | [], us, _ => by simp
  | x :: l, us, h => by
    rw [List.mapM_cons, Sem.run_bind, h 0 x rfl]
    simp only [Result.andThen]
    rw [Sem.run_bind, mapM_run l (fun i => us (i + 1)) fun i a ha => h (i + 1) a (by simpa using ha)]
    simp only [Result.andThen, Sem.run_pure, List.length_cons]
    congr 1
    rw [List.range_succ_eq_map]
    simp [Function.comp_def]
theorem optM_get {α β : Type} {f : α → Option β} {l : List α} {m : List β} (h : optM f l = some m) : l.length = m.length ∧ ∀ (i : Nat) a, l[i]? = some a → ∃ b, m[i]? = some b ∧ f a = some b := by
  obtain ⟨h1, h2⟩ := optM_some h
  exact ⟨h1, h2⟩
theorem resVs_get {lk : Look} {vars : List PV} : ∀ {rs : List (Nat × Option (Bool × Nat))} {l : List PV}, resVs lk vars rs = some l → rs.length = l.length ∧ ∀ (i : Nat) r, rs[i]? = some r → ∃ v, l[i]? = some v ∧ resV lk vars r = some v
  | [], l, h => by simp only [resVs, Option.some.injEq] at h; subst h; exact ⟨rfl, fun i r hr => by simp at hr⟩
  | r :: rs, l, h => by
    simp only [resVs] at h
    split at h
    · rename_i v vs h1 h2
      cases h
      obtain ⟨h3, h4⟩ := resVs_get h2
      refine ⟨by simp [h3], fun i x hx => ?_⟩
      cases i with
      | zero => simp at hx; subst hx; exact ⟨v, rfl, h1⟩
      | succ i => exact h4 i x (by simpa using hx)
    · cases h
theorem loadP_addr {lk : Look} {agg : Bool} {sz : Nat} {p r : PV} {v : Value} (hv : VRep G h w D v p) (hk : loadP lk agg sz p = some r) : ∃ a, v = .pointer (some a) := by
  cases p <;> (try (simp [loadP] at hk; done)) <;> (unfold D at hv; unfold VRep at hv)
  case ptr => obtain ⟨b, rfl, _⟩ := hv; exact ⟨_, rfl⟩
  case eptr => obtain ⟨b, f, rfl, _⟩ := hv; exact ⟨_, rfl⟩
  case nptr => obtain ⟨b, f, rfl, _⟩ := hv; exact ⟨_, rfl⟩
  case fptr => obtain ⟨b, f, rfl, _⟩ := hv; exact ⟨_, rfl⟩
theorem loadAP_addr {lk : Look} {n : Nat} {p r : PV} {v : Value} (hv : VRep G h w D v p) (hk : loadAP lk n p = some r) : ∃ a, v = .pointer (some a) := by
  cases p <;> simp only [loadAP] at hk <;> (try exact loadP_addr hv hk)
  case eptr => unfold D at hv; unfold VRep at hv; obtain ⟨b, f, rfl, _⟩ := hv; exact ⟨_, rfl⟩
def resF (tmps : Array Value) : ResultVar → Sem Value
  | .tmp t => pure (tmps.getD t undef)
  | .cell a t => do loadVar t (← asAddr (tmps.getD a undef))
theorem results_eq (fn : Func) (tmps : Array Value) : results fn tmps = (do
    let vs ← fn.results.mapM (resF tmps)
    pure (if h : vs.size = 1 then vs[0] else .tuple vs)) := by
  unfold results
  congr 2
def compRes (P : Program) (vs : List Nat) : ResultVar → Option (Nat × Option (Bool × Nat)) := fun r => match r with
  | .tmp t => (vs.idxOf? t).map fun v => (v, none)
  | .cell a t => match vs.idxOf? a, infoA P t, sizeA P t with
    | some v, some g, some s => some (v, some (g, s))
    | _, _, _ => none
theorem res_run (hr : HRep B Z0 G h w) {vs : List Nat} {vars : List PV} {a : Act} (hv : VarsR G h w vs vars a) {fn : Func} {rs : List (Nat × Option (Bool × Nat))} (hc : optM (compRes P vs) fn.results.toList = some rs) {l : List PV} (hl : resVs (lkOf h []) vars rs = some l) :
    ∃ us : Array Value, (fn.results.mapM (resF a.tmps)).run P w = .ok us w ∧ us.size = l.length ∧ ∀ (i : Nat) p, l[i]? = some p → ∃ u, us[i]? = some u ∧ VRep G h w D u p := by
  obtain ⟨c1, c2⟩ := optM_get hc
  obtain ⟨l1, l2⟩ := resVs_get hl
  have hall : ∀ i, ∃ u, ∀ (hi : i < fn.results.size), (resF a.tmps fn.results[i]).run P w = .ok u w ∧ ∃ p, l[i]? = some p ∧ VRep G h w D u p := fun i => by
    by_cases hi : i < fn.results.size
    · obtain ⟨r, h1, h2⟩ := c2 i fn.results[i] (by simp [hi])
      obtain ⟨p, h3, h4⟩ := l2 i r h1
      have slot : ∀ {t k}, vs.idxOf? t = some k → VRep G h w D (a.tmps.getD t undef) (vars.getD k .undef) := fun {t k} hk => by
        obtain ⟨v, q1, q2⟩ := hv k t (idx_get hk)
        rw [Array.getD_eq_getD_getElem?, q1]; exact q2
      cases hx : fn.results[i] with
      | tmp t =>
        rw [hx] at h2
        simp only [compRes] at h2
        obtain ⟨k, hk, rfl⟩ := Option.map_eq_some_iff.1 h2
        simp only [resV, Option.some.injEq] at h4
        exact ⟨a.tmps.getD t undef, fun _ => ⟨by rw [hx]; rfl, p, h3, h4 ▸ slot hk⟩⟩
      | cell ad t =>
        rw [hx] at h2
        simp only [compRes] at h2
        split at h2
        · rename_i k g s hk hg hs
          cases h2
          simp only [resV] at h4
          have hsl := slot hk
          obtain ⟨u, q1, q2⟩ : ∃ u, (Instr.loadAt t (a.tmps.getD ad undef)).run P w = .ok u w ∧ VRep G h w D u p := by
            cases g with
            | true => exact snd_loadAP (P := P) hr hg hs hsl (by simpa using h4)
            | false => exact snd_loadP (P := P) hr hg hs hsl (by simpa using h4)
          obtain ⟨ad', he⟩ : ∃ ad', a.tmps.getD ad undef = .pointer (some ad') := by
            cases g with
            | true => exact loadAP_addr hsl (by simpa using h4)
            | false => exact loadP_addr (agg := false) hsl (by simpa using h4)
          refine ⟨u, fun _ => ⟨?_, p, h3, q2⟩⟩
          rw [he] at q1
          rw [hx]
          simp only [resF, he]
          exact q1
        · cases h2
    · exact ⟨undef, fun h => absurd h hi⟩
  refine ⟨((List.range fn.results.size).map fun i => (hall i).choose).toArray, ?_, ?_, fun i p hp => ?_⟩
  · have := mapM_run (P := P) (w := w) (F := resF a.tmps) fn.results.toList (fun i => (hall i).choose) fun i r hi => by
      obtain ⟨h1, h2⟩ := List.getElem?_eq_some_iff.1 hi
      have := ((hall i).choose_spec (by simpa using h1)).1
      rw [show fn.results[i]'(by simpa using h1) = r by simpa using h2] at this
      exact this
    rw [Array.mapM_eq_mapM_toList, map_eq_pure_bind, Sem.run_bind, this]
    simp
  · simp; rw [← l1, ← c1]; simp
  · have hi : i < fn.results.size := by
      have := (List.getElem?_eq_some_iff.1 hp).1
      rw [← l1, ← c1] at this; simpa using this
    obtain ⟨_, p', q1, q2⟩ := (hall i).choose_spec hi
    rw [hp] at q1; cases q1
    exact ⟨_, by simp [hi], q2⟩
/-- marks are shut one after another -/
theorem leaves_marks {F : Fence} {n m : Nat} {fn : Func} {tmps : Array Value} {R : Ending → World → Prop} : ∀ (Ds : List Nat) (w : World), Ds.Nodup → (∀ D ∈ Ds, m ≤ D ∧ w.heap[D]? = some (.deferred (some []))) → (∀ w', Shut m w w' → LeavesIn F n P fn tmps R [] .returning w') →
    LeavesInM F n P fn tmps R (Ds.map fun D => { target := .collected D, args := #[] }) .returning w
  | [], w, _, _, h => h w (Shut.refl _ _)
  | D :: Ds, w, hn, hD, h => by
    obtain ⟨h1, h2⟩ := List.nodup_cons.1 hn
    obtain ⟨h3, h4⟩ := hD D (by simp)
    refine ⟨by simp, .inl ⟨D, _, rfl, run_takeDeferred h4, ?_⟩⟩
    have hs : Shut m w (w.putObj D (.deferred none)) := Shut.put h4 rfl h3
    refine leaves_marks Ds _ h2 (fun D' hD' => ⟨(hD D' (by simp [hD'])).1, ?_⟩) fun w' hw' => h w' (hs.trans hw')
    rw [World.putObj_heap_other fun e => h1 (by rw [← e]; exact hD')]
    exact (hD D' (by simp [hD'])).2
/-- a value of results -/
theorem res_val {fn : Func} {vs : List Nat} {vars : List PV} {a : Act} (hr : HRep B Z0 G h w) (hv : VarsR G h w vs vars a) {rs : List (Nat × Option (Bool × Nat))} (hres : optM (compRes P vs) fn.results.toList = some rs) {l : List PV} (hl : resVs (lkOf h []) vars rs = some l) :
    ∃ u, (results fn a.tmps).run P w = .ok u w ∧ VRep G h w (D + 1) u (oneV l) ∧ ((∀ p, l = [p] → VRep G h w D u p) ∧ (l.length ≠ 1 → ∃ us : Array Value, u = .tuple us ∧ us.size = l.length ∧ ∀ (i : Nat) p, l[i]? = some p → ∃ u, us[i]? = some u ∧ VRep G h w D u p)) := by
  obtain ⟨us, r1, r2, r3⟩ := res_run (P := P) (fn := fn) hr hv hres hl
  refine ⟨if h : us.size = 1 then us[0] else .tuple us, by rw [results_eq, Sem.run_bind, r1]; rfl, ?_⟩
  by_cases h1 : us.size = 1
  · rw [dif_pos h1]
    obtain ⟨p, rfl⟩ : ∃ p, l = [p] := List.length_eq_one_iff.1 (by omega)
    obtain ⟨u, q1, q2⟩ := r3 0 p rfl
    rw [Array.getElem?_eq_getElem (by omega)] at q1
    cases q1
    exact ⟨q2.up, fun p' e => by cases e; exact q2, fun hne => absurd rfl hne⟩
  · rw [dif_neg h1]
    have e1 : oneV l = .tup l := by
      match l, r2 with
      | [], _ => rfl
      | [p], r2 => exact absurd r2 h1
      | _ :: _ :: _, _ => rfl
    refine ⟨?_, fun p e => by subst e; exact absurd r2 h1, fun _ => ⟨us, rfl, r2, r3⟩⟩
    rw [e1]
    unfold VRep
    exact ⟨us, rfl, r2, r3⟩
/-- at a function's end -/
theorem leave_fn {n : Nat} {fn : Func} {vs : List Nat} {N : Nat} {rs : List (Nat × Option (Bool × Nat))} {szs : List Nat} {Z : Nat → Prop} {vars : List PV} {a : Act} (hres : optM (compRes P vs) fn.results.toList = some rs) (hi : SInv w.heap.size Z (Anch.plain w) vs N vars h a w') {l : List PV}
    (he2 : resVs (lkOf h []) vars rs = some l) (he3 : nodupN (outIds (oneV l)) = true) (he4 : szsOk szs 0 ((comps (oneV l)).flatMap ecells) = true) :
    LeavesInM (fz none) n P fn a.tmps (fun e w' => ∃ v G, e = .returned v ∧ Bl w.heap.size w w' ∧ HRep w.heap.size Z G (resH szs (rvV (lkOf h []) (oneV l))) w' ∧ VRep G (resH szs (rvV (lkOf h []) (oneV l))) w' D v (thV (resK szs) (fun _ => 1) (rvV (lkOf h []) (oneV l)))) a.defers .returning w' := by
  obtain ⟨G, i1, i2, i3, ⟨Ds, d1, d2, d3⟩, i5⟩ := hi
  rw [d2]
  refine leaves_marks (m := w.heap.size) Ds w' d1 d3 fun w'' hs => ?_
  obtain ⟨j1, jx⟩ := i1.cells (w' := w'') (by rw [hs.size]; exact Nat.le_refl _) hs.cells
  have j2 : VarsR G h w'' vs vars a := fun k s hk => by
    obtain ⟨v, h1, h2⟩ := i2 k s hk
    exact ⟨v, h1, h2.ext jx⟩
  have j5 := (Anch.plain w).shut i1 i5 hs
  obtain ⟨u, q0, _, q1, q2⟩ := res_val (P := P) (fn := fn) j1 j2 hres he2
  obtain ⟨o1, o2⟩ := out_rep j1 (q := oneV l) (szs := szs) he3 he4
  refine ⟨u, q0, _, _, rfl, j5, o1, ?_⟩
  by_cases h1 : l.length = 1
  · obtain ⟨p, rfl⟩ : ∃ p, l = [p] := List.length_eq_one_iff.1 h1
    have q2 := q1 p rfl
    simp only [oneV] at o2 ⊢
    by_cases ht : ∃ vs, p = .tup vs
    · obtain ⟨vs, rfl⟩ := ht
      obtain ⟨ws, hw, hs, hws⟩ := rep_tup q2
      rw [hw]
      simp only [rvV, thV]
      unfold D; unfold VRep
      refine ⟨ws, rfl, by rw [thComps_len]; simpa using hs, comps_rep (cells := rcells (.tup vs)) o2 4 (q := 0) (U := fun i => ws[i]?) (fun i x hx => by rw [Nat.zero_add]; exact hx) hws⟩
    · have e1 : rvV (lkOf h []) p = rvE (lkOf h []) p := by
        cases p <;> first | rfl | exact absurd ⟨_, rfl⟩ ht
      have e2 : rcells p = ecells p := by
        cases p <;> first | (exact absurd ⟨_, rfl⟩ ht) | simp [rcells, comps]
      have e3 : thV (resK szs) (fun _ => 1) (rvE (lkOf h []) p) = thComp (resK szs) (fun _ => 1) 0 (rvE (lkOf h []) p) := by
        rcases rvE_eq (lkOf h []) p with ⟨cs, rfl⟩ | ⟨hn, e⟩
        · rfl
        · rw [e]
          have := (rvC_na (lkOf h []) p).2
          cases hz : rvC (lkOf h []) p <;> first | rfl | exact absurd hz (this _)
      rw [e1] at o2 ⊢
      rw [e3]
      exact comp_rep (cells := rcells p) (q := 0) o2 (fun i x hx => by rw [Nat.zero_add, e2]; exact hx) q2 5
  · obtain ⟨us, hu, r2, r3⟩ := q2 h1
    have e1 : oneV l = .tup l := by
      match l, h1 with
      | [], _ => rfl
      | [p], h1 => exact absurd rfl h1
      | _ :: _ :: _, _ => rfl
    rw [e1] at o2 ⊢
    rw [hu]
    simp only [rvV, thV] at o2 ⊢
    unfold D; unfold VRep
    refine ⟨us, rfl, by rw [thComps_len]; simpa using r2, comps_rep (cells := rcells (.tup l)) o2 4 (q := 0) (U := fun i => us[i]?) (fun i x hx => by rw [Nat.zero_add]; exact hx) r3⟩
/-- at a function's beginning -/
theorem enter_fn {n N : Nat} {vs : List Nat} (hall : vs.all (Nat.blt · N) = true) {Z : Nat → Prop} (hz : ∀ b, Z b → isC w b) {vargs : Array Value} {args : List PV} (hargs : LRep (VRep (G0 Z) [] w D) vargs args) (hlen : args.length ≤ N) :
    SInv w.heap.size Z (Anch.plain w) vs N (vs.map fun s => args.getD s .undef) (List.replicate n (0, .dead)) { tmps := vargs ++ Array.replicate (N - vargs.size) undef, defers := [] } w := by
  obtain ⟨hsz, hargs⟩ := hargs
  have hext : Ext (G0 Z) [] w (G0 Z) (List.replicate n (0, Ob.dead)) w := ⟨fun _ x => x, fun _ _ => rfl, fun k gn ob e => by simp at e⟩
  have hdead : ∀ {i g : Nat} {o : Ob}, (List.replicate n (0, Ob.dead))[i]? = some (g, o) → o = .dead := fun ho => by
    have := List.eq_of_mem_replicate (List.mem_of_getElem? ho)
    cases this; rfl
  have hr0 : HRep w.heap.size Z (G0 Z) (List.replicate n (0, Ob.dead)) w :=
    ⟨Nat.le_refl _, fun b hb => .inl hb, hz, fun _ hR => hR.elim, fun _ _ _ _ _ _ hR => hR.elim, fun _ _ _ _ _ _ hR => hR.elim, fun _ _ hR => hR.elim, fun i g o ho => by rw [hdead ho]; trivial⟩
  refine ⟨G0 Z, hr0, fun i s hs => ?_, by simp; omega, DefOk.nil, Bl.refl _ _⟩
  have hsN : s < N := by simpa [Nat.blt_eq] using List.all_eq_true.1 hall s (List.mem_of_getElem? hs)
  rw [List.getD_eq_getElem?_getD, List.getElem?_map, hs]
  simp only [Option.map_some, Option.getD_some]
  by_cases hsa : s < args.length
  · obtain ⟨u, h1, h2⟩ := hargs s _ (List.getElem?_eq_getElem hsa)
    refine ⟨u, ?_, ?_⟩
    · rw [Array.getElem?_append_left (by omega)]; exact h1
    · rw [List.getD_eq_getElem?_getD, List.getElem?_eq_getElem hsa]
      exact h2.ext hext
  · refine ⟨undef, ?_, ?_⟩
    · rw [Array.getElem?_append_right (by omega), Array.getElem?_replicate, if_pos (by omega)]
    · rw [List.getD_eq_getElem?_getD, List.getElem?_eq_none (by omega)]; exact mk_undef
/-- A FUNCTION, by its body -/
theorem fn_intro (hm : P.follows .mixedOrders = true) {f : FuncId} {X : XFn} (hc : compFn P f = some X) {szs : List Nat} {args : List PV} {r : PV} (hlen : args.length ≤ X.ntmps)
    (hx : xwp (fns P) X.body (xret X.results szs r) (X.vars.map fun s => args.getD s .undef) (List.replicate X.sites (0, .dead))) : Fn P f szs args r := by
  unfold compFn at hc
  dsimp only at hc
  split at hc
  · cases hc
  · rename_i fn hfn
    split at hc
    · cases hc
    · rename_i c hbody
      split at hc
      · rename_i x k rs hcode hres
        split at hc
        · rename_i hcond
          obtain ⟨hnm, hnd, hall, hpar⟩ := hcond
          cases hc
          refine ⟨by unfold callable; rw [hfn]; simpa [hbody] using hnm, fun w Z vargs hz hargs => ?_⟩
          refine (callsIn_fz (ρ := none) (n := 0)).1 (callsIn_of_wp_marks hfn hbody trivial ?_)
          refine code_sound hm (nodupN_spec hnd) c 0 k x hcode _ _ _ _ _ _ hx (enter_fn hall hz hargs hlen) fun e vars h a w' hi' he => ?_
          obtain ⟨he1, l, he2, he3, he4, rfl⟩ := he
          cases e with
          | normal => exact leave_fn hres hi' he2 he3 he4
          | ret => exact leave_fn hres hi' he2 he3 he4
          | exit id => exact he1.elim
        · cases hc
      · cases hc
def Anch.inner (B : Nat) (G0 : Gh) (h0 : Heap) (w0 : World) (hB : B ≤ w0.heap.size) : Anch B :=
  ⟨w0.heap.size, fun _ G h w => Ext G0 h0 w0 G h w ∧ Bl B w0 w, fun h => h.2.size, fun p x b => ⟨p.1.trans x, p.2.trans b⟩, fun r p s => ⟨p.1.trans (r.cells (by rw [s.size]; exact Nat.le_refl _) s.cells).2, p.2.shut hB s⟩⟩
/-- cells, or a struct of cells -/
def flat1 : PV → Bool
  | .agg cs => cs.all one
  | c => one c
theorem flat_rep {n m : Nat} {u : Value} {p : PV} (hf : flat1 p = true) (hv : VRep G h w n u p) : VRep G h w (m + 1) u p := by
  cases p
  case agg cs =>
    cases n with
    | zero => unfold VRep at hv; exact hv.elim
    | succ n =>
      unfold VRep at hv ⊢
      obtain ⟨vs, h1, h2⟩ := hv
      exact ⟨vs, h1, lrep_ones h2 hf⟩
  all_goals (first | (simp [flat1, one] at hf; done) | exact hv.cell (by refine ⟨?_, ?_, ?_⟩ <;> intros <;> simp))
/-- what an inner body's end gives -/
def xretI (rs : List (Nat × Option (Bool × Nat))) (r : PV) (h0 : Heap) (ws : List (Nat × Row)) : XPost := fun e vs h =>
  (match e with | .exit _ => False | _ => True) ∧ ∃ l, resVs (lkOf h []) vs rs = some l ∧ (l.length == 1 || l.all flat1) = true ∧ oneV l = r ∧ h = upd h0 ws
/-- A FUNCTION THAT SHARES THE CALLER'S MEMORY, by its body -/
theorem fn_introI (hm : P.follows .mixedOrders = true) {f : FuncId} {off : Nat} {X : XFn} (hc : compFnAt P f off = some X) {first args cap : List PV} {r : PV} {h0 : Heap} {ws : List (Nat × Row)} (hlen : (first ++ args ++ cap).length ≤ X.ntmps) (ho : (first.all one && cap.all one) = true)
    (hx : xwp (fns P) X.body (xretI X.results r h0 ws) (X.vars.map fun s => (first ++ args ++ cap).getD s .undef) h0) : FI P (.fn (.func f) first cap) args h0 r ws := by
  unfold compFnAt at hc
  dsimp only at hc
  split at hc
  · cases hc
  · rename_i fn hfn
    split at hc
    · cases hc
    · rename_i c hbody
      split at hc
      · rename_i x k rs hcode hres
        split at hc
        · rename_i hcond
          obtain ⟨hnm, hnd, hall, hpar⟩ := hcond
          cases hc
          refine ⟨f, first, cap, rfl, by unfold callable; rw [hfn]; simpa [hbody] using hnm, ho, fun B Z0 G0 w vf va vc hr hf ha hcp => ?_⟩
          refine (callsIn_fz (ρ := none) (n := 0)).1 (callsIn_of_wp_marks hfn hbody trivial ?_)
          have hall' : LRep (VRep G0 h0 w D) (vf ++ va ++ vc) (first ++ args ++ cap) := by
            refine ⟨by simp [hf.1, ha.1, hcp.1], fun i p hp => ?_⟩
            by_cases h1 : i < first.length
            · rw [List.append_assoc, List.getElem?_append_left h1] at hp
              obtain ⟨u, q1, q2⟩ := hf.2 i p hp
              have := (Array.getElem?_eq_some_iff.1 q1).1
              exact ⟨u, by rw [Array.append_assoc, Array.getElem?_append_left this]; exact q1, q2⟩
            · rw [List.append_assoc, List.getElem?_append_right (by omega)] at hp
              by_cases h2 : i - first.length < args.length
              · rw [List.getElem?_append_left h2] at hp
                obtain ⟨u, q1, q2⟩ := ha.2 _ p hp
                have := (Array.getElem?_eq_some_iff.1 q1).1
                refine ⟨u, ?_, q2⟩
                rw [Array.append_assoc, Array.getElem?_append_right (by rw [hf.1]; omega), hf.1, Array.getElem?_append_left this]; exact q1
              · rw [List.getElem?_append_right (by omega)] at hp
                obtain ⟨u, q1, q2⟩ := hcp.2 _ p hp
                refine ⟨u, ?_, q2⟩
                rw [Array.append_assoc, Array.getElem?_append_right (by rw [hf.1]; omega), hf.1, Array.getElem?_append_right (by rw [ha.1]; omega), ha.1]; exact q1
          obtain ⟨hsz, hargs⟩ := hall'
          have hi : SInv B Z0 (Anch.inner B G0 h0 w hr.base) (varsOf fn c) fn.ntmps ((varsOf fn c).map fun s => (first ++ args ++ cap).getD s .undef) h0 { tmps := (vf ++ va ++ vc) ++ Array.replicate (fn.ntmps - (vf ++ va ++ vc).size) undef, defers := [] } w := by
            have hlen' : (first ++ args ++ cap).length ≤ fn.ntmps := hlen
            refine ⟨G0, hr, fun i s hs => ?_, by rw [Array.size_append, Array.size_replicate]; omega, DefOk.nil, Ext.refl, Bl.refl _ _⟩
            have hsN : s < fn.ntmps := by simpa [Nat.blt_eq] using List.all_eq_true.1 hall s (List.mem_of_getElem? hs)
            rw [List.getD_eq_getElem?_getD, List.getElem?_map, hs]
            simp only [Option.map_some, Option.getD_some]
            by_cases hsa : s < (first ++ args ++ cap).length
            · obtain ⟨u, h1, h2⟩ := hargs s _ (List.getElem?_eq_getElem hsa)
              refine ⟨u, ?_, ?_⟩
              · rw [Array.getElem?_append_left (by omega)]; exact h1
              · rw [List.getD_eq_getElem?_getD, List.getElem?_eq_getElem hsa]; exact h2
            · refine ⟨undef, ?_, ?_⟩
              · rw [Array.getElem?_append_right (by omega), Array.getElem?_replicate, if_pos (by omega)]
              · rw [List.getD_eq_getElem?_getD, List.getElem?_eq_none (by omega)]; exact mk_undef
          refine code_sound hm (nodupN_spec hnd) c off k x hcode _ _ _ _ _ _ hx hi fun e vars h a w' hi' he => ?_
          obtain ⟨he1, l, he2, he3, rfl, rfl⟩ := he
          have key : LeavesInM (fz none) 0 P fn a.tmps (fun e w' => ∃ u G', e = .returned u ∧ HRep B Z0 G' (upd h0 ws) w' ∧ Ext G0 h0 w G' (upd h0 ws) w' ∧ VRep G' (upd h0 ws) w' D u (oneV l) ∧ Bl B w w') a.defers .returning w' := by
            obtain ⟨G, i1, i2, i3, ⟨Ds, d1, d2, d3⟩, i5⟩ := hi'
            rw [d2]
            refine leaves_marks (m := w.heap.size) Ds w' d1 d3 fun w'' hs => ?_
            obtain ⟨j1, jx⟩ := i1.cells (w' := w'') (by rw [hs.size]; exact Nat.le_refl _) hs.cells
            have j2 : VarsR G (upd h0 ws) w'' (varsOf fn c) vars a := fun k s hk => by
              obtain ⟨v, h1, h2⟩ := i2 k s hk
              exact ⟨v, h1, h2.ext jx⟩
            obtain ⟨j5, j6⟩ := (Anch.inner B G0 h0 w hr.base).shut i1 i5 hs
            obtain ⟨u, q0, _, q1, q2⟩ := res_val (P := P) (fn := fn) j1 j2 hres he2
            refine ⟨u, q0, u, G, rfl, j1, j5, ?_, j6⟩
            by_cases h1 : l.length = 1
            · obtain ⟨p, rfl⟩ : ∃ p, l = [p] := List.length_eq_one_iff.1 h1
              exact q1 p rfl
            · obtain ⟨us, hu, r2, r3⟩ := q2 h1
              have e1 : oneV l = .tup l := by
                match l, h1 with
                | [], _ => rfl
                | [p], h1 => exact absurd rfl h1
                | _ :: _ :: _, _ => rfl
              rw [e1, hu]
              unfold D; unfold VRep
              refine ⟨us, rfl, r2, fun i p hp => ?_⟩
              obtain ⟨u, g1, g2⟩ := r3 i p hp
              have hfl : l.all flat1 = true := by simpa [h1] using he3
              exact ⟨u, g1, flat_rep (List.all_eq_true.1 hfl p (List.mem_of_getElem? hp)) g2⟩
          cases e with
          | normal => exact key
          | ret => exact key
          | exit id => exact he1.elim
        · cases hc
      · cases hc
end
end Go.Proofs.Ytgdcogoacnghkaa.Am
/-
  Settled states: what is not live is forgotten, objects are numbered anew.
-/
namespace Go.Proofs.Ytgdcogoacnghkaa.Am
set_option linter.unusedSimpArgs false
set_option linter.unusedVariables false
set_option linter.unusedSectionVars false
open Go.RowKit
/-! ### settled -/
theorem sGen_get {f : Nat → Row} : ∀ {n p i : Nat}, (sGen f n p)[i]? = if i < n then some (f (p + i)) else none
  | 0, p, i => by simp [sGen]
  | n + 1, p, 0 => by simp [sGen]
  | n + 1, p, i + 1 => by
    simp only [sGen, List.getElem?_cons_succ, sGen_get]
    rw [show p + (i + 1) = p + 1 + i by omega]
    by_cases h : i < n <;> simp [h]
theorem sGen_len {f : Nat → Row} : ∀ {n p : Nat}, (sGen f n p).length = n
  | 0, p => rfl
  | n + 1, p => by simp [sGen, sGen_len]
theorem sVs_get {live ks : List Nat} {c0 : Nat} {h : Heap} : ∀ {vs : List PV} {i k : Nat}, (sVs live ks c0 h i vs).getD k .undef = .undef ∨ (sVs live ks c0 h i vs).getD k .undef = renV ks c0 h (vs.getD k .undef)
  | [], i, k => .inl (by simp [sVs])
  | v :: vs, i, 0 => by
    simp only [sVs, List.getD_cons_zero]
    split
    · exact .inr rfl
    · exact .inl rfl
  | v :: vs, i, k + 1 => by
    simp only [sVs, List.getD_cons_succ]
    exact sVs_get
def sJ (ks : List Nat) (c0 p : Nat) : Option Nat := if p < c0 then none else ks[p - c0]?
section
variable {P : Program} {B : Nat} {Z0 : Nat → Prop} {G G' : Gh} {h h' : Heap} {w w' : World}
theorem renO_arr {ks : List Nat} {c0 : Nat} {ob : Ob} {sz ver : Nat} {fr : Bool} {es : List PV} (he : renO ks c0 h ob = .arr sz ver fr es) : ∃ ver0, ob = .arr sz ver0 fr es ∧ es.all noRefE = true ∧ ver = 0 := by
  cases ob with
  | dead => cases he
  | var cs => simp only [renO] at he; split at he <;> cases he
  | mp f u v => simp only [renO] at he; split at he <;> cases he
  | arr s v f e =>
    simp only [renO] at he
    split at he
    · rename_i hn; cases he; exact ⟨v, rfl, hn, rfl⟩
    · cases he
theorem renO_var {ks : List Nat} {c0 : Nat} {ob : Ob} {cs : List PV} (he : renO ks c0 h ob = .var cs) : ∃ cs0, ob = .var cs0 ∧ cs = cs0.map (ren ks c0 h) ∧ cs.all one = true := by
  cases ob with
  | dead => cases he
  | arr s v f e => simp only [renO] at he; split at he <;> cases he
  | mp f u v => simp only [renO] at he; split at he <;> cases he
  | var c =>
    simp only [renO] at he
    split at he
    · rename_i hn; cases he; exact ⟨c, rfl, rfl, hn⟩
    · cases he
theorem renO_mp {ks : List Nat} {c0 : Nat} {ob : Ob} {fr : Bool} {us cs : List PV} (he : renO ks c0 h ob = .mp fr us cs) : ob = .mp fr us cs ∧ cs.all mvS = true := by
  cases ob with
  | dead => cases he
  | var cs => simp only [renO] at he; split at he <;> cases he
  | arr s v f e => simp only [renO] at he; split at he <;> cases he
  | mp f u v =>
    simp only [renO] at he
    split at he
    · rename_i hn; cases he; exact ⟨rfl, hn⟩
    · cases he
theorem mv_hold {u : Value} {c : PV} (hnu : ∀ ns, c ≠ .uslc ns) (hc : mvS c = true) (hv : VRep G h w D u c) (hZ : G'.Z = G.Z) : VRep G' h' w D u c := by
  by_cases hn : c = .nils
  · subst hn; obtain rfl := rep_nils hv; exact mk_nils
  by_cases hp : pureC c = true
  · have h1 := vrep_pure hp hv
    rw [← hZ] at h1
    exact prep_vrep (pure_one hp) h1
  · have hf : fn0 c = true := by
      cases c <;> simp [mvS, isU, hp] at hc hn hnu ⊢ <;> assumption
    unfold fn0 at hf
    split at hf
    · obtain ⟨vs, us, rfl, h1, h2⟩ := rep_fn hv
      unfold D; unfold VRep
      exact ⟨vs, us, rfl, ⟨h1.1, fun i c hc => by simp at hc⟩, ⟨h2.1, fun i c hc => by simp at hc⟩⟩
    · cases hf
theorem settle_rep (hr : HRep B Z0 G h w) {ks : List Nat} {c0 : Nat} (hok : sOk ks c0 h = true) :
    (∀ {n : Nat} {u : Value} {c : PV}, VRep G h w n u c → VRep (G.out (sJ ks c0)) (sHeap ks c0 h) w n u (ren ks c0 h c)) ∧ HRep B Z0 (G.out (sJ ks c0)) (sHeap ks c0 h) w := by
  unfold sOk at hok
  simp only [Bool.and_eq_true, Nat.ble_eq] at hok
  obtain ⟨hnd, hlen⟩ := hok
  have hnd := nodupN_spec hnd
  have hJ : ∀ {p k}, sJ ks c0 p = some k → c0 ≤ p ∧ ks[p - c0]? = some k := fun {p k} hj => by
    unfold sJ at hj
    split at hj
    · cases hj
    · exact ⟨by omega, hj⟩
  have hJ' : ∀ {i k}, ks[i]? = some k → sJ ks c0 (c0 + i) = some k := fun {i k} hi => by
    unfold sJ; rw [if_neg (by omega), show c0 + i - c0 = i by omega]; exact hi
  have hrow : ∀ {p k}, sJ ks c0 p = some k → (sHeap ks c0 h)[p]? = some (1, renO ks c0 h (h.getD k (0, .dead)).2) := fun {p k} hj => by
    obtain ⟨h1, h2⟩ := hJ hj
    have := (List.getElem?_eq_some_iff.1 h2).1
    unfold sHeap
    rw [sGen_get, if_pos (by omega), Nat.zero_add]
    unfold sRow
    rw [if_neg (by omega), h2]
  have hrow' : ∀ {p r}, (sHeap ks c0 h)[p]? = some r → r.2 = .dead ∨ ∃ k ob g0, sJ ks c0 p = some k ∧ h[k]? = some (g0, ob) ∧ r = (1, renO ks c0 h ob) := fun {p r} hp => by
    unfold sHeap at hp
    rw [sGen_get] at hp
    split at hp
    · cases hp
      rw [Nat.zero_add]
      unfold sRow
      split
      · exact .inl rfl
      · rename_i hpc
        cases hk : ks[p - c0]? with
        | none => exact .inl rfl
        | some k =>
          cases hh : h[k]? with
          | none => left; simp [List.getD_eq_getElem?_getD, hh, renO]
          | some r0 =>
            obtain ⟨g0, ob⟩ := r0
            refine .inr ⟨k, ob, g0, ?_, hh, by simp [List.getD_eq_getElem?_getD, hh]⟩
            unfold sJ; rw [if_neg hpc]; exact hk
    · cases hp
  have hnew : ∀ {p k y}, sJ ks c0 p = some k → (G.out (sJ ks c0)).β (p, y) = G.β (k, y) ∧ ((G.out (sJ ks c0)).R (p, y) ↔ G.R (k, y)) ∧ (G.out (sJ ks c0)).γ (p, y) = G.γ (k, y) ∧ (G.out (sJ ks c0)).σ (p, y) = G.σ (k, y) := fun {p k y} hj => by
    refine ⟨?_, ?_, ?_, ?_⟩ <;> simp only [Gh.out, hj]
  have hRJ : ∀ {p y}, (G.out (sJ ks c0)).R (p, y) → ∃ k, sJ ks c0 p = some k := fun {p y} hR => by
    cases hj : sJ ks c0 p with
    | some k => exact ⟨k, rfl⟩
    | none => simp only [Gh.out, hj] at hR
  have hval : ∀ {n : Nat} {u : Value} {c : PV}, VRep G h w n u c → VRep (G.out (sJ ks c0)) (sHeap ks c0 h) w n u (ren ks c0 h c) := by
    intro n u c hc
    cases c <;> simp only [ren] <;> (try exact mk_undef)
    case bool => obtain rfl := rep_bool hc; exact mk_bool
    case int => obtain rfl := rep_int hc; exact mk_int
    case str => obtain rfl := rep_str hc; exact mk_str
    case nils => obtain rfl := rep_nils hc; exact mk_nils
    case lit => cases n <;> (unfold VRep at hc ⊢; exact hc)
    case slc es => exact mk_slc (rep_slc (G := G) (h := h) hc)
    case mlit us cs => exact mk_mlit (rep_mlit (G := G) (h := h) hc)
    case mapv k g =>
      cases hi : ks.idxOf? k with
      | none => exact mk_undef
      | some i =>
        have hj := hJ' (idx_get hi)
        have hc' := VRep.cell (m := D) (by refine ⟨?_, ?_, ?_⟩ <;> intros <;> simp) hc
        refine VRep.cell (n := D) (by refine ⟨?_, ?_, ?_⟩ <;> intros <;> simp) ?_
        unfold D at hc' ⊢; unfold VRep at hc' ⊢
        obtain ⟨b, q0, gn, ob, q4, q5, q6⟩ := hc'
        have hgd : h.getD k (0, .dead) = (gn, ob) := by simp [List.getD_eq_getElem?_getD, q4]
        refine ⟨b, q0, _, _, hrow hj, ?_, fun e fr us cs he => ?_⟩
        · split <;> omega
        · have hg : gn = g := by
            rw [hgd] at e
            by_cases hg : gn = g
            · exact hg
            · simp [hg] at e
          rw [hgd] at he
          obtain ⟨h1, _⟩ := renO_mp he
          obtain ⟨a1, _⟩ := hnew (y := none) hj
          rw [show (G.out (sJ ks c0)).β (root (c0 + i)) = G.β (root k) from a1]
          exact q6 hg _ _ _ h1
    case own k g gl s o l =>
      cases hi : ks.idxOf? k with
      | none => exact mk_undef
      | some i =>
        have hj := hJ' (idx_get hi)
        have hc' := VRep.cell (m := D) (by refine ⟨?_, ?_, ?_⟩ <;> intros <;> simp) hc
        refine VRep.cell (n := D) (by refine ⟨?_, ?_, ?_⟩ <;> intros <;> simp) ?_
        unfold D at hc' ⊢; unfold VRep at hc' ⊢
        obtain ⟨a, c, q0, q1, q2, q3, gn, ob, q4, q5, q6⟩ := hc'
        have hgd : h.getD k (0, .dead) = (gn, ob) := by simp [List.getD_eq_getElem?_getD, q4]
        refine ⟨a, c, q0, q1, q2, q3, _, _, hrow hj, ?_, fun e sz ver fr es he => ?_⟩
        · split <;> omega
        · have hg : gn = g := by
            rw [hgd] at e
            by_cases hg : gn = g
            · exact hg
            · simp [hg] at e
          rw [hgd] at he
          obtain ⟨ver0, h1, _, _⟩ := renO_arr he
          obtain ⟨q7, q8⟩ := q6 hg _ _ _ _ h1
          refine ⟨q7, fun e2 => ?_⟩
          obtain ⟨q9, q10, q11⟩ := q8 e2
          obtain ⟨a1, a2, a3, a4⟩ := hnew (y := none) hj
          rw [show (G.out (sJ ks c0)).β (root (c0 + i)) = G.β (root k) from a1, show (G.out (sJ ks c0)).γ (root (c0 + i)) = G.γ (root k) from a3]
          exact ⟨q9, fun hR => q10 (a2.1 hR), fun hR => q11 fun y => hR (a2.2 y)⟩
    case eptr k g gl s i0 j0 =>
      cases hi : ks.idxOf? k with
      | none => exact mk_undef
      | some i =>
        have hj := hJ' (idx_get hi)
        have hc' := VRep.cell (m := D) (by refine ⟨?_, ?_, ?_⟩ <;> intros <;> simp) hc
        refine VRep.cell (n := D) (by refine ⟨?_, ?_, ?_⟩ <;> intros <;> simp) ?_
        unfold D at hc' ⊢; unfold VRep at hc' ⊢
        obtain ⟨b, f, q0, gn, ob, q4, q5, q6⟩ := hc'
        have hgd : h.getD k (0, .dead) = (gn, ob) := by simp [List.getD_eq_getElem?_getD, q4]
        refine ⟨b, f, q0, _, _, hrow hj, ?_, fun e sz ver fr es he => ?_⟩
        · split <;> omega
        · have hg : gn = g := by
            rw [hgd] at e
            by_cases hg : gn = g
            · exact hg
            · simp [hg] at e
          rw [hgd] at he
          obtain ⟨ver0, h1, _, _⟩ := renO_arr he
          obtain ⟨q7, q8⟩ := q6 hg _ _ _ _ h1
          refine ⟨q7, fun e2 => ?_⟩
          obtain ⟨q9, q10, q11⟩ := q8 e2
          obtain ⟨a1, a2, a3, a4⟩ := hnew (y := none) hj
          rw [show (G.out (sJ ks c0)).β (root (c0 + i)) = G.β (root k) from a1]
          exact ⟨q9, q10, q11⟩
    case ptr k g o =>
      cases hi : ks.idxOf? k with
      | none => exact mk_undef
      | some i =>
        have hj := hJ' (idx_get hi)
        have hc' := VRep.cell (m := D) (by refine ⟨?_, ?_, ?_⟩ <;> intros <;> simp) hc
        refine VRep.cell (n := D) (by refine ⟨?_, ?_, ?_⟩ <;> intros <;> simp) ?_
        unfold D at hc' ⊢; unfold VRep at hc' ⊢
        obtain ⟨b, q0, gn, ob, q4, q5, q6⟩ := hc'
        have hgd : h.getD k (0, .dead) = (gn, ob) := by simp [List.getD_eq_getElem?_getD, q4]
        refine ⟨b, q0, _, _, hrow hj, ?_, fun e cs he => ?_⟩
        · split <;> omega
        · have hg : gn = g := by
            rw [hgd] at e
            by_cases hg : gn = g
            · exact hg
            · simp [hg] at e
          rw [hgd] at he
          obtain ⟨cs0, h1, _, _⟩ := renO_var he
          obtain ⟨a1, _⟩ := hnew (y := none) hj
          rw [show (G.out (sJ ks c0)).β (root (c0 + i)) = G.β (root k) from a1]
          exact q6 hg _ h1
  refine ⟨hval, hr.base, hr.zo, hr.zb, ?_, ?_, ?_, ?_, ?_⟩
  · rintro ⟨p, y⟩ hR
    obtain ⟨k, hk⟩ := hRJ hR
    obtain ⟨a1, a2, _⟩ := hnew (y := y) hk
    rw [a1]; exact hr.lv _ (a2.1 hR)
  · rintro p g o ho hlv y hR
    obtain ⟨k, hk⟩ := hRJ hR
    obtain ⟨a1, a2, _⟩ := hnew (y := y) hk
    rw [a1]
    rcases hrow' ho with h1 | ⟨k', ob, g0, h1, h2, h3⟩
    · simp only at h1; subst h1; cases hlv
    · rw [hk] at h1; cases h1
      cases h3
      refine hr.nz k g0 ob h2 ?_ y (a2.1 hR)
      cases ob with
      | dead => cases hlv
      | var cs => rfl
      | arr s v f e => simp only [renO] at hlv; split at hlv <;> first | exact hlv | cases hlv
      | mp f u v => simp only [renO] at hlv; split at hlv <;> first | exact hlv | cases hlv
  · intro p g o ho hfo y hR
    obtain ⟨k, hk⟩ := hRJ hR
    obtain ⟨a1, a2, _⟩ := hnew (y := y) hk
    rw [a1]
    rcases hrow' ho with h1 | ⟨k', ob, g0, h1, h2, h3⟩
    · simp only at h1; subst h1; cases hfo
    · rw [hk] at h1; cases h1
      cases h3
      refine hr.fz k g0 ob h2 ?_ y (a2.1 hR)
      cases ob with
      | dead => cases hfo
      | var cs => simp only [renO] at hfo; split at hfo <;> cases hfo
      | arr s v f e => simp only [renO] at hfo; split at hfo <;> first | exact hfo | cases hfo
      | mp f u v => simp only [renO] at hfo; split at hfo <;> first | exact hfo | cases hfo
  · rintro ⟨p1, y1⟩ ⟨p2, y2⟩ h1 h2 he
    obtain ⟨k1, hk1⟩ := hRJ h1
    obtain ⟨k2, hk2⟩ := hRJ h2
    obtain ⟨a1, a2, _⟩ := hnew (y := y1) hk1
    obtain ⟨b1, b2, _⟩ := hnew (y := y2) hk2
    have := hr.inj _ _ (a2.1 h1) (b2.1 h2) (by rw [← a1, ← b1]; exact he)
    simp only [Prod.mk.injEq] at this
    obtain ⟨rfl, rfl⟩ := this
    obtain ⟨c1, c2⟩ := hJ hk1
    obtain ⟨d1, d2⟩ := hJ hk2
    have := nodup_get hnd c2 d2
    rw [show p1 = p2 by omega]
  · rintro p g o ho
    rcases hrow' ho with h1 | ⟨k, ob, g0, hk, h2, h3⟩
    · simp only at h1; subst h1; trivial
    · simp only [Prod.mk.injEq] at h3
      obtain ⟨rfl, rfl⟩ := h3
      have hob := hr.ob k _ _ h2
      obtain ⟨a1, a2, a3, a4⟩ := hnew (y := none) hk
      cases hro : renO ks c0 h ob with
      | dead => trivial
      | mp fr us cs =>
        obtain ⟨rfl, hms⟩ := renO_mp hro
        unfold ORep at hob ⊢
        rw [show (G.out (sJ ks c0)).β (root p) = G.β (root k) from a1]
        obtain ⟨o1, o2, es, o3, o4, o5⟩ := hob
        refine ⟨a2.2 o1, o2, es, o3, o4, fun i c hc => ?_⟩
        obtain ⟨e, e1, e2⟩ := o5 i c hc
        refine ⟨e, e1, ?_⟩
        by_cases hu : ∃ ns, c = .uslc ns
        · obtain ⟨ns, rfl⟩ := hu
          unfold MRep NRep at e2 ⊢
          obtain ⟨b1, b2, b3, b4⟩ := hnew (y := some (i, 0)) hk
          rw [b1, b2, b3, b4]
          exact e2
        · have hnu : ∀ ns, c ≠ .uslc ns := fun ns e => hu ⟨ns, e⟩
          have hcm := List.all_eq_true.1 hms c (List.mem_of_getElem? hc)
          exact (mrep_of hnu).2 (mv_hold hnu hcm ((mrep_of hnu).1 e2) rfl)
      | var cs =>
        obtain ⟨cs0, rfl, rfl, hone⟩ := renO_var hro
        unfold ORep at hob ⊢
        obtain ⟨o1, us, T, o2, o3, o4⟩ := hob
        refine ⟨a2.2 o1, us, T, by rw [show (G.out (sJ ks c0)).β (root p) = G.β (root k) from a1]; exact o2, by simpa using o3, fun i c hc => ?_⟩
        rw [List.getElem?_map] at hc
        obtain ⟨c1, hc1, rfl⟩ := Option.map_eq_some_iff.1 hc
        obtain ⟨u, o5, o6⟩ := o4 i c1 hc1
        exact ⟨u, o5, List.all_eq_true.1 hone _ (List.mem_map.2 ⟨c1, List.mem_of_getElem? hc1, rfl⟩), hval o6.2⟩
      | arr sz ver fr es =>
        obtain ⟨ver0, rfl, hnr, rfl⟩ := renO_arr hro
        unfold ORep at hob ⊢
        rw [show (G.out (sJ ks c0)).β (root p) = G.β (root k) from a1, show (G.out (sJ ks c0)).γ (root p) = G.γ (root k) from a3]
        obtain ⟨o1, o2, o3, o4, o5⟩ := hob
        refine ⟨o1, o2, o3, fun hR => ?_, fun hR => o5 fun y => hR (a2.2 y)⟩
        obtain ⟨us, T, o6, o7, o8⟩ := o4 (a2.1 hR)
        refine ⟨us, T, o6, o7, fun i e he => ?_⟩
        obtain ⟨o9, o10⟩ := o8 i e he
        refine ⟨o9, fun j c hc => ?_⟩
        obtain ⟨u, o11, o12⟩ := o10 j c hc
        refine ⟨u, o11, ?_⟩
        have hnr' : (pureC c || isU c) = true := List.all_eq_true.1 (show (ecells e).all (fun c => pureC c || isU c) = true from List.all_eq_true.1 hnr e (List.mem_of_getElem? he)) c (List.mem_of_getElem? hc)
        cases c
        case uslc ns =>
          unfold CRep NRep at o12 ⊢
          obtain ⟨b1, b2, b3, b4⟩ := hnew (y := some (i, j)) hk
          rw [b1, b2, b3, b4]
          exact o12
        case nils =>
          unfold CRep at o12 ⊢
          obtain rfl := rep_nils o12.2
          exact ⟨rfl, mk_nils⟩
        all_goals
          unfold CRep at o12 ⊢
          exact ⟨o12.1, prep_vrep o12.1 (vrep_pure (G := G) (h := h) (by simpa [isU] using hnr') o12.2)⟩
theorem renV_rep (hr : HRep B Z0 G h w) {ks : List Nat} {c0 : Nat} (hok : sOk ks c0 h = true) {u : Value} {c : PV} (hv : VRep G h w D u c) : VRep (G.out (sJ ks c0)) (sHeap ks c0 h) w D u (renV ks c0 h c) := by
  obtain ⟨hc, _⟩ := settle_rep hr hok
  by_cases ha : ∃ cs, c = .agg cs
  · obtain ⟨cs, rfl⟩ := ha
    obtain ⟨vs, rfl, h1, h2⟩ := rep_agg hv
    refine mk_agg ⟨by simpa using h1, fun i x hx => ?_⟩
    rw [List.getElem?_map] at hx
    obtain ⟨c1, hc1, rfl⟩ := Option.map_eq_some_iff.1 hx
    obtain ⟨u, h3, h4⟩ := h2 i c1 hc1
    exact ⟨u, h3, hc h4⟩
  · have : renV ks c0 h c = ren ks c0 h c := by
      cases c <;> first | rfl | exact absurd ⟨_, rfl⟩ ha
    rw [this]; exact hc hv
theorem settle_inv {W0 : Anch B} {vs : List Nat} {N : Nat} {vars : List PV} {a : Act} (hfree : ∀ {g : PV} {G : Gh} {h : Heap} {g' : PV} {G' : Gh} {h' : Heap} {w : World}, W0.psi g G h w → W0.psi g' G' h' w) (hi : SInv B Z0 W0 vs N vars h a w) {live ks : List Nat} {c0 : Nat} (hok : sOk ks c0 h = true) : SInv B Z0 W0 vs N (sVs live ks c0 h 0 vars) (sHeap ks c0 h) a w := by
  obtain ⟨G, i1, i2, i3, i4, i5⟩ := hi
  refine ⟨_, (settle_rep i1 hok).2, fun k s hs => ?_, i3, i4, hfree i5⟩
  obtain ⟨v, h1, h2⟩ := i2 k s hs
  refine ⟨v, h1, ?_⟩
  rcases sVs_get (live := live) (ks := ks) (c0 := c0) (h := h) (vs := vars) (i := 0) (k := k) with e | e
  · rw [e]; exact mk_undef
  · rw [e]; exact renV_rep i1 hok h2
end
section
variable {P : Program} {B : Nat} {Z0 : Nat → Prop} {W0 : Anch B} {vs : List Nat} {N : Nat} {vars : List PV} {h : Heap} {a : Act} {w : World}
/-- CODE, with states settled here and there -/
theorem code_soundS {nn : Nat} (hm : P.follows .mixedOrders = true) (hgf : ∀ {g g' : PV} {G : Gh} {h : Heap} {w : World}, W0.psi g G h w → W0.psi g' G h w) (hn : vs.Nodup) : ∀ (c : Code) (k k' : Nat) (x : XCode), (noLS x = true ∨ ∀ {g : PV} {G : Gh} {h : Heap} {g' : PV} {G' : Gh} {h' : Heap} {w : World}, W0.psi g G h w → W0.psi g' G' h' w) → compCode P vs N k c = some (strip x, k') → ∀ (Q' : XPost) (Q : Exit → Act → World → Prop) (vars : List PV) (h : Heap) (a : Act) (w : World),
    xwp (fns P) x Q' vars h → SInv B Z0 W0 vs N vars h a w → PostR B Z0 W0 vs N Q' Q → c.wpIn (fz none) nn P Q a w := by
  intro c
  induction c with
  | skip =>
    intro k k' x hns hc Q' Q vars h a w hx hi hq
    have hp := peel hgf hx hi
    clear hx hi
    obtain ⟨x, vars, h, hnf, hnm, ⟨hst, hns'⟩, hx, hi⟩ := hp
    rw [← hst] at hc
    rw [← hns'] at hns
    clear hns'
    simp only [compCode, Option.some.injEq, Prod.mk.injEq] at hc
    obtain ⟨hc, rfl⟩ := hc
    obtain rfl := st_skip hnf hnm hc.symm
    exact wpIn_skip (hq .normal _ _ _ _ hi hx)
  | label l =>
    intro k k' x hns hc Q' Q vars h a w hx hi hq
    have hp := peel hgf hx hi
    clear hx hi
    obtain ⟨x, vars, h, hnf, hnm, ⟨hst, hns'⟩, hx, hi⟩ := hp
    rw [← hst] at hc
    rw [← hns'] at hns
    clear hns'
    simp only [compCode, Option.some.injEq, Prod.mk.injEq] at hc
    obtain ⟨hc, rfl⟩ := hc
    obtain rfl := st_skip hnf hnm hc.symm
    exact wpIn_label (hq .normal _ _ _ _ hi hx)
  | exit id =>
    intro k k' x hns hc Q' Q vars h a w hx hi hq
    have hp := peel hgf hx hi
    clear hx hi
    obtain ⟨x, vars, h, hnf, hnm, ⟨hst, hns'⟩, hx, hi⟩ := hp
    rw [← hst] at hc
    rw [← hns'] at hns
    clear hns'
    simp only [compCode, Option.some.injEq, Prod.mk.injEq] at hc
    obtain ⟨hc, rfl⟩ := hc
    obtain rfl := st_exit hnf hnm hc.symm
    exact wpIn_exit (hq (.exit id) _ _ _ _ hi hx)
  | ret =>
    intro k k' x hns hc Q' Q vars h a w hx hi hq
    have hp := peel hgf hx hi
    clear hx hi
    obtain ⟨x, vars, h, hnf, hnm, ⟨hst, hns'⟩, hx, hi⟩ := hp
    rw [← hst] at hc
    rw [← hns'] at hns
    clear hns'
    simp only [compCode, Option.some.injEq, Prod.mk.injEq] at hc
    obtain ⟨hc, rfl⟩ := hc
    obtain rfl := st_ret hnf hnm hc.symm
    exact wpIn_ret (hq .ret _ _ _ _ hi hx)
  | region id ops d =>
    intro k k' x hns hc Q' Q vars h a w hx hi hq
    have hp := peel hgf hx hi
    clear hx hi
    obtain ⟨x, vars, h, hnf, hnm, ⟨hst, hns'⟩, hx, hi⟩ := hp
    rw [← hst] at hc
    rw [← hns'] at hns
    clear hns'
    simp only [compCode] at hc
    split at hc
    · rename_i xs k1 hc0
      simp only [Option.some.injEq, Prod.mk.injEq] at hc
      obtain ⟨hc, rfl⟩ := hc
      obtain rfl := st_reg hnf hnm hc.symm
      obtain ⟨hsi, hx⟩ := hx
      rw [show ops = ops.toList.toArray by simp]
      cases d with
      | false => exact plain_sound rfl rfl fyI_ok hn hc0 hsi hx (fun st a w hi hq' => hq .normal _ _ _ _ hi hq') hi
      | true => exact drawn_sound hm hn hc0 hsi hx (fun st a w hi hq' => hq .normal _ _ _ _ hi hq') hi
    · cases hc
  | seq c1 c2 ih1 ih2 =>
    intro k k' x hns hc Q' Q vars h a w hx hi hq
    have hp := peel hgf hx hi
    clear hx hi
    obtain ⟨x, vars, h, hnf, hnm, ⟨hst, hns'⟩, hx, hi⟩ := hp
    rw [← hst] at hc
    rw [← hns'] at hns
    clear hns'
    simp only [compCode] at hc
    split at hc
    · rename_i x1 k1 h1
      split at hc
      · rename_i x2 k2 h2
        simp only [Option.some.injEq, Prod.mk.injEq] at hc
        obtain ⟨hc, rfl⟩ := hc
        obtain ⟨x1, x2, rfl, rfl, rfl⟩ := st_seq hnf hnm hc.symm
        simp only [noLS, Bool.and_eq_true] at hns
        refine wpIn_seq (ih1 _ _ _ (hns.imp (·.1) fun h => h) h1 _ _ _ _ _ _ hx hi fun e vars h a w hi he => ?_)
        cases e with
        | normal => exact ih2 _ _ _ (hns.imp (·.2) fun h => h) h2 _ _ _ _ _ _ he hi hq
        | exit id => exact hq (.exit id) _ _ _ _ hi he
        | ret => exact hq .ret _ _ _ _ hi he
      · cases hc
    · cases hc
  | cond cd c1 c2 ih1 ih2 =>
    intro k k' x hns hc Q' Q vars h a w hx hi hq
    have hp := peel hgf hx hi
    clear hx hi
    obtain ⟨x, vars, h, hnf, hnm, ⟨hst, hns'⟩, hx, hi⟩ := hp
    rw [← hst] at hc
    rw [← hns'] at hns
    clear hns'
    simp only [compCode] at hc
    split at hc
    · rename_i x1 k1 h1
      split at hc
      · rename_i x2 k2 h2
        split at hc
        · rename_i dd hdd
          simp only [Option.some.injEq, Prod.mk.injEq] at hc
          obtain ⟨hc, rfl⟩ := hc
          obtain ⟨x1, x2, rfl, rfl, rfl⟩ := st_cond hnf hnm hc.symm
          simp only [noLS, Bool.and_eq_true] at hns
          obtain ⟨G, i1, i2, i3⟩ := id hi
          have hr := cond_rep hdd i2
          simp only [xwp] at hx
          split at hx
          · rename_i he
            rw [he] at hr
            exact wpIn_cond_true (rep_bool hr) (ih1 _ _ _ (hns.imp (·.1) fun h => h) h1 _ _ _ _ _ _ hx hi hq)
          · rename_i he
            rw [he] at hr
            exact wpIn_cond_false (rep_bool hr) (ih2 _ _ _ (hns.imp (·.2) fun h => h) h2 _ _ _ _ _ _ hx hi hq)
          · exact hx.elim
        · cases hc
      · cases hc
    · cases hc
  | block id c ih =>
    intro k k' x hns hc Q' Q vars h a w hx hi hq
    have hp := peel hgf hx hi
    clear hx hi
    obtain ⟨x, vars, h, hnf, hnm, ⟨hst, hns'⟩, hx, hi⟩ := hp
    rw [← hst] at hc
    rw [← hns'] at hns
    clear hns'
    simp only [compCode] at hc
    split at hc
    · rename_i x1 k1 h1
      simp only [Option.some.injEq, Prod.mk.injEq] at hc
      obtain ⟨hc, rfl⟩ := hc
      obtain ⟨x1, rfl, rfl⟩ := st_block hnf hnm hc.symm
      refine wpIn_block (ih _ _ x1 (show noLS x1 = true ∨ _ from hns) h1 _ _ _ _ _ _ hx hi fun e vars h a w hi he => ?_)
      cases e with
      | normal => exact hq .normal _ _ _ _ hi he
      | exit i =>
        simp only [xin] at he
        show Exit.inBlock id Q (.exit i) a w
        simp only [Exit.inBlock]
        split at he
        · rename_i e; rw [if_pos e]; exact hq .normal _ _ _ _ hi he
        · rename_i e; rw [if_neg e]; exact hq (.exit i) _ _ _ _ hi he
      | ret => exact hq .ret _ _ _ _ hi he
    · cases hc
  | loop c ih =>
    intro k k' x hns hc Q' Q vars h a w hx hi hq
    have hp := peel hgf hx hi
    clear hx hi
    obtain ⟨x, vars, h, hnf, hnm, ⟨hst, hns'⟩, hx, hi⟩ := hp
    rw [← hst] at hc
    rw [← hns'] at hns
    clear hns'
    simp only [compCode] at hc
    split at hc
    · rename_i x1 k1 h1
      simp only [Option.some.injEq, Prod.mk.injEq] at hc
      obtain ⟨hc, rfl⟩ := hc
      rcases st_loop hnf hnm hc.symm with ⟨x1, rfl, rfl⟩ | ⟨lv, c0, x1, rfl, rfl⟩
      · obtain ⟨n, hx⟩ := hx
        refine wpIn_loop_rounds n ?_
        induction n generalizing vars h a w with
        | zero => exact hx.elim
        | succ n ihn =>
          refine ih _ _ x1 (show noLS x1 = true ∨ _ from hns) h1 _ _ _ _ _ _ hx hi fun e vars h a w hi he => ?_
          cases e with
          | normal => exact ihn _ _ _ _ hi he
          | exit id => exact hq (.exit id) _ _ _ _ hi he
          | ret => exact hq .ret _ _ _ _ hi he
      · obtain ⟨n, hx⟩ := hx
        refine wpIn_loop_rounds n ?_
        induction n generalizing vars h a w with
        | zero => exact hx.elim
        | succ n ihn =>
          obtain ⟨hok, hx⟩ := hx
          have hfree : ∀ {g : PV} {G : Gh} {h : Heap} {g' : PV} {G' : Gh} {h' : Heap} {w : World}, W0.psi g G h w → W0.psi g' G' h' w := by
            rcases hns with h1 | h1
            · simp [noLS] at h1
            · exact h1
          refine ih _ _ _ (.inr hfree) h1 _ _ _ _ _ _ hx (settle_inv hfree hi hok) fun e vars h a w hi he => ?_
          cases e with
          | normal => exact ihn _ _ _ _ hi he
          | exit id => exact hq (.exit id) _ _ _ _ hi he
          | ret => exact hq .ret _ _ _ _ hi he
    · cases hc
  | scope c ih =>
    intro k k' x hns hc Q' Q vars h a w hx hi hq
    have hp := peel hgf hx hi
    clear hx hi
    obtain ⟨x, vars, h, hnf, hnm, ⟨hst, hns'⟩, hx, hi⟩ := hp
    rw [← hst] at hc
    rw [← hns'] at hns
    clear hns'
    simp only [compCode] at hc
    refine wpIn_scope_straight (ih _ _ _ hns hc _ _ _ _ _ _ hx hi fun e vars h a w hi he => ?_)
    cases e with
    | normal => exact hq .normal _ _ _ _ hi he
    | exit id => exact hq (.exit id) _ _ _ _ hi he
    | ret => exact hq .ret _ _ _ _ hi he
  | rangeFunc g ps a b iha ihb =>
    intro k k' x hns hc Q' Q vars h act w hx hi hq
    have hp := peel hgf hx hi
    clear hx hi
    obtain ⟨x, vars, h, hnf, hnm, ⟨hst, hns'⟩, hx, hi⟩ := hp
    rw [← hst] at hc
    rw [← hns'] at hns
    clear hns'
    simp only [compCode] at hc
    split at hc
    · rename_i x1 k1 h1
      split at hc
      · rename_i x2 k2 h2
        split at hc
        · rename_i gd hgd
          split at hc
          · rename_i hcond
            simp only [Option.some.injEq, Prod.mk.injEq] at hc
            obtain ⟨hc, rfl⟩ := hc
            obtain ⟨x1, x2, rfl, rfl, rfl⟩ := st_rfor hnf hnm hc.symm
            simp only [Bool.and_eq_true] at hcond
            exact range_sound hm hn h1 h2 hgd hcond.1.1 hcond.1.2 hcond.2 hx hi hq
          · cases hc
        · cases hc
      · cases hc
    · cases hc
  | _ =>
    intro k k' x hns hc
    simp only [compCode] at hc
    cases hc
/-- A FUNCTION, by its body; n: how many objects there may be -/
theorem fn_introS (hm : P.follows .mixedOrders = true) {f : FuncId} {X : XFn} {s0 : Nat} (hc : compFn P f = some { X with sites := s0, body := strip X.body }) {n : Nat} {szs : List Nat} {args : List PV} {r : PV} (hlen : args.length ≤ X.ntmps)
    (hx : xwp (fns P) X.body (xret X.results szs r) (X.vars.map fun s => args.getD s .undef) (List.replicate n (0, .dead))) : Fn P f szs args r := by
  unfold compFn at hc
  dsimp only at hc
  split at hc
  · cases hc
  · rename_i fn hfn
    split at hc
    · cases hc
    · rename_i c hbody
      split at hc
      · rename_i x k rs hcode hres
        split at hc
        · rename_i hcond
          obtain ⟨hnm, hnd, hall, hpar⟩ := hcond
          obtain ⟨nt, vs0, si0, re0, bo0⟩ := X
          simp only [Option.some.injEq, XFn.mk.injEq] at hc
          obtain ⟨rfl, rfl, rfl, rfl, hb0⟩ := hc
          rw [hb0] at hcode
          refine ⟨by unfold callable; rw [hfn]; simpa [hbody] using hnm, fun w Z vargs hz hargs => ?_⟩
          refine (callsIn_fz (ρ := none) (n := 0)).1 (callsIn_of_wp_marks hfn hbody trivial ?_)
          refine code_soundS hm (fun h => h) (nodupN_spec hnd) c 0 k bo0 (.inr fun h => h) hcode _ _ _ _ _ _ hx (enter_fn hall hz hargs hlen) fun e vars h a w' hi' he => ?_
          obtain ⟨he1, l, he2, he3, he4, rfl⟩ := he
          cases e with
          | normal => exact leave_fn hres hi' he2 he3 he4
          | ret => exact leave_fn hres hi' he2 he3 he4
          | exit id => exact he1.elim
        · cases hc
      · cases hc
/-- A FUNCTION THAT SHARES THE CALLER'S MEMORY, by its body; arrays may be frozen in it -/
theorem fn_introIF (hm : P.follows .mixedOrders = true) {f : FuncId} {off s0 : Nat} {X : XFn} (hc : compFnAt P f off = some { X with sites := s0, body := strip X.body }) (hns : noLS X.body = true) {first args cap : List PV} {r : PV} {h0 : Heap} {ws : List (Nat × Row)} (hlen : (first ++ args ++ cap).length ≤ X.ntmps) (ho : (first.all one && cap.all one) = true)
    (hx : xwp (fns P) X.body (xretI X.results r h0 ws) (X.vars.map fun s => (first ++ args ++ cap).getD s .undef) h0) : FI P (.fn (.func f) first cap) args h0 r ws := by
  unfold compFnAt at hc
  dsimp only at hc
  split at hc
  · cases hc
  · rename_i fn hfn
    split at hc
    · cases hc
    · rename_i c hbody
      split at hc
      · rename_i x k rs hcode hres
        split at hc
        · rename_i hcond
          obtain ⟨hnm, hnd, hall, hpar⟩ := hcond
          obtain ⟨nt, vs0, si0, re0, bo0⟩ := X
          simp only [Option.some.injEq, XFn.mk.injEq] at hc
          obtain ⟨rfl, rfl, rfl, rfl, hb0⟩ := hc
          rw [hb0] at hcode
          refine ⟨f, first, cap, rfl, by unfold callable; rw [hfn]; simpa [hbody] using hnm, ho, fun B Z0 G0 w vf va vc hr hf ha hcp => ?_⟩
          refine (callsIn_fz (ρ := none) (n := 0)).1 (callsIn_of_wp_marks hfn hbody trivial ?_)
          have hall' : LRep (VRep G0 h0 w D) (vf ++ va ++ vc) (first ++ args ++ cap) := by
            refine ⟨by simp [hf.1, ha.1, hcp.1], fun i p hp => ?_⟩
            by_cases h1 : i < first.length
            · rw [List.append_assoc, List.getElem?_append_left h1] at hp
              obtain ⟨u, q1, q2⟩ := hf.2 i p hp
              have := (Array.getElem?_eq_some_iff.1 q1).1
              exact ⟨u, by rw [Array.append_assoc, Array.getElem?_append_left this]; exact q1, q2⟩
            · rw [List.append_assoc, List.getElem?_append_right (by omega)] at hp
              by_cases h2 : i - first.length < args.length
              · rw [List.getElem?_append_left h2] at hp
                obtain ⟨u, q1, q2⟩ := ha.2 _ p hp
                have := (Array.getElem?_eq_some_iff.1 q1).1
                refine ⟨u, ?_, q2⟩
                rw [Array.append_assoc, Array.getElem?_append_right (by rw [hf.1]; omega), hf.1, Array.getElem?_append_left this]; exact q1
              · rw [List.getElem?_append_right (by omega)] at hp
                obtain ⟨u, q1, q2⟩ := hcp.2 _ p hp
                refine ⟨u, ?_, q2⟩
                rw [Array.append_assoc, Array.getElem?_append_right (by rw [hf.1]; omega), hf.1, Array.getElem?_append_right (by rw [ha.1]; omega), ha.1]; exact q1
          obtain ⟨hsz, hargs⟩ := hall'
          have hi : SInv B Z0 (Anch.inner B G0 h0 w hr.base) (varsOf fn c) fn.ntmps ((varsOf fn c).map fun s => (first ++ args ++ cap).getD s .undef) h0 { tmps := (vf ++ va ++ vc) ++ Array.replicate (fn.ntmps - (vf ++ va ++ vc).size) undef, defers := [] } w := by
            have hlen' : (first ++ args ++ cap).length ≤ fn.ntmps := hlen
            refine ⟨G0, hr, fun i s hs => ?_, by rw [Array.size_append, Array.size_replicate]; omega, DefOk.nil, Ext.refl, Bl.refl _ _⟩
            have hsN : s < fn.ntmps := by simpa [Nat.blt_eq] using List.all_eq_true.1 hall s (List.mem_of_getElem? hs)
            rw [List.getD_eq_getElem?_getD, List.getElem?_map, hs]
            simp only [Option.map_some, Option.getD_some]
            by_cases hsa : s < (first ++ args ++ cap).length
            · obtain ⟨u, h1, h2⟩ := hargs s _ (List.getElem?_eq_getElem hsa)
              refine ⟨u, ?_, ?_⟩
              · rw [Array.getElem?_append_left (by omega)]; exact h1
              · rw [List.getD_eq_getElem?_getD, List.getElem?_eq_getElem hsa]; exact h2
            · refine ⟨undef, ?_, ?_⟩
              · rw [Array.getElem?_append_right (by omega), Array.getElem?_replicate, if_pos (by omega)]
              · rw [List.getD_eq_getElem?_getD, List.getElem?_eq_none (by omega)]; exact mk_undef
          refine code_soundS hm (fun h => h) (nodupN_spec hnd) c off k bo0 (.inl hns) hcode _ _ _ _ _ _ hx hi fun e vars h a w' hi' he => ?_
          obtain ⟨he1, l, he2, he3, rfl, rfl⟩ := he
          have key : LeavesInM (fz none) 0 P fn a.tmps (fun e w' => ∃ u G', e = .returned u ∧ HRep B Z0 G' (upd h0 ws) w' ∧ Ext G0 h0 w G' (upd h0 ws) w' ∧ VRep G' (upd h0 ws) w' D u (oneV l) ∧ Bl B w w') a.defers .returning w' := by
            obtain ⟨G, i1, i2, i3, ⟨Ds, d1, d2, d3⟩, i5⟩ := hi'
            rw [d2]
            refine leaves_marks (m := w.heap.size) Ds w' d1 d3 fun w'' hs => ?_
            obtain ⟨j1, jx⟩ := i1.cells (w' := w'') (by rw [hs.size]; exact Nat.le_refl _) hs.cells
            have j2 : VarsR G (upd h0 ws) w'' (varsOf fn c) vars a := fun k s hk => by
              obtain ⟨v, h1, h2⟩ := i2 k s hk
              exact ⟨v, h1, h2.ext jx⟩
            obtain ⟨j5, j6⟩ := (Anch.inner B G0 h0 w hr.base).shut i1 i5 hs
            obtain ⟨u, q0, _, q1, q2⟩ := res_val (P := P) (fn := fn) j1 j2 hres he2
            refine ⟨u, q0, u, G, rfl, j1, j5, ?_, j6⟩
            by_cases h1 : l.length = 1
            · obtain ⟨p, rfl⟩ : ∃ p, l = [p] := List.length_eq_one_iff.1 h1
              exact q1 p rfl
            · obtain ⟨us, hu, r2, r3⟩ := q2 h1
              have e1 : oneV l = .tup l := by
                match l, h1 with
                | [], _ => rfl
                | [p], h1 => exact absurd rfl h1
                | _ :: _ :: _, _ => rfl
              rw [e1, hu]
              unfold D; unfold VRep
              refine ⟨us, rfl, r2, fun i p hp => ?_⟩
              obtain ⟨u, g1, g2⟩ := r3 i p hp
              have hfl : l.all flat1 = true := by simpa [h1] using he3
              exact ⟨u, g1, flat_rep (List.all_eq_true.1 hfl p (List.mem_of_getElem? hp)) g2⟩
          cases e with
          | normal => exact key
          | ret => exact key
          | exit id => exact he1.elim
        · cases hc
      · cases hc
end
end Go.Proofs.Ytgdcogoacnghkaa.Am
/-
  The machine run: what it gives for given arguments is what the function gives.
-/
namespace Go.Proofs.Ytgdcogoacnghkaa.Am
set_option linter.unusedSimpArgs false
set_option linter.unusedVariables false
set_option linter.unusedSectionVars false
open Go.RowKit
structure Callee where
  fn : FuncId → List Nat → List PV → Option PV
  fi : PV → List PV → Heap → Option (PV × List (Nat × Row))
def arunOps (call : Callee) : List XOper → XSt → Option XSt
  | [], st => some st
  | x :: xs, st => match gdO st.loc st.vars x.guard with
    | none => none
    | some false => arunOps call xs ⟨st.loc ++ [.tup []], setO st.vars x.var (.tup []), st.heap⟩
    | some true => match x.op with
      | .call f args ks _ => match call.fn f (ks.map (·.2)) (args.map fun a => fzV (lkOf st.heap x.hide) (evO st.loc st.vars a)) with
        | some r => if callOk st.heap.length ks ((args.map (evO st.loc st.vars)).any (hasOwn (lkOf st.heap x.hide))) r then
            arunOps call xs ⟨st.loc ++ [thV (ksF ks) (genF (lkOf st.heap x.hide)) r], setO st.vars x.var (thV (ksF ks) (genF (lkOf st.heap x.hide)) r), upd st.heap (thWs (ksF ks) (genF (lkOf st.heap x.hide)) 0 (rcells r))⟩ else none
        | none => none
      | .callv f args | .cally f args => match call.fi (evO st.loc st.vars f) (args.map (evO st.loc st.vars)) st.heap with
        | some (r, ws) => arunOps call xs ⟨st.loc ++ [r], setO st.vars x.var r, upd st.heap ws⟩
        | none => none
      | op => match aop (evO st.loc st.vars) (lkOf st.heap x.hide) op with
        | some (p, ws) => arunOps call xs ⟨st.loc ++ [p], setO st.vars x.var p, upd st.heap ws⟩
        | none => none
abbrev AOut := Option (XExit × List PV × Heap)
def aloop (body : List PV → Heap → AOut) : Nat → List PV → Heap → AOut
  | 0, _, _ => none
  | n + 1, vs, h => match body vs h with
    | some (.normal, vs, h) => aloop body n vs h
    | r => r
def arunC (call : Callee) (n : Nat) : XCode → List PV → Heap → AOut
  | .skip, vs, h => some (.normal, vs, h)
  | .reg xs, vs, h => if sitesIn h.length xs then (match arunOps call xs ⟨[], vs, h⟩ with
    | some st => some (.normal, st.vars, st.heap)
    | none => none) else none
  | .seq a b, vs, h => match arunC call n a vs h with
    | some (.normal, vs, h) => arunC call n b vs h
    | r => r
  | .cond c a b, vs, h => match evO [] vs c with
    | .bool true => arunC call n a vs h
    | .bool false => arunC call n b vs h
    | _ => none
  | .block id b, vs, h => match arunC call n b vs h with
    | some (.exit i, vs, h) => if i = id then some (.normal, vs, h) else some (.exit i, vs, h)
    | r => r
  | .loop b, vs, h => aloop (arunC call n b) n vs h
  | .loopS .., _, _ => none
  | .frz .., _, _ => none
  | .mat .., _, _ => none
  | .rfor .., _, _ => none
  | .exit id, vs, h => some (.exit id, vs, h)
  | .ret, vs, h => some (.ret, vs, h)
def aret (rs : List (Nat × Option (Bool × Nat))) (szs : List Nat) : AOut → Option PV
  | none | some (.exit _, _, _) => none
  | some (_, vs, h) => match resVs (lkOf h []) vs rs with
    | some l => if nodupN (outIds (oneV l)) && szsOk szs 0 (rcells (oneV l)) then some (rvV (lkOf h []) (oneV l)) else none
    | none => none
/-- rows that were never used -/
def unused : Heap → Nat
  | [] => 0
  | (g, o) :: h => match unused h, g, o with
    | 0, 0, .dead => 0
    | n, _, _ => n + 1
def allRows : Nat → Heap → List (Nat × Row)
  | _, [] => []
  | i, r :: h => (i, r) :: allRows (i + 1) h
def aretI (rs : List (Nat × Option (Bool × Nat))) (n : Nat) : AOut → Option (PV × List (Nat × Row))
  | none | some (.exit _, _, _) => none
  | some (_, vs, h) => match resVs (lkOf h []) vs rs with
    | some l => if (l.length == 1 || l.all flat1) && h.length == n then some (oneV l, allRows 0 h) else none
    | none => none
/-- d: how deep calls go; n: how many rounds a loop goes at most; ex: rows that calls may use which share memory -/
def arunF (P : Program) (n ex : Nat) : Nat → Callee
  | 0 => ⟨fun _ _ _ => none, fun _ _ _ => none⟩
  | d + 1 => ⟨fun f szs args => match compFn P f with
    | some X => if args.length ≤ X.ntmps then aret X.results szs (arunC (arunF P n ex d) n X.body (X.vars.map fun s => args.getD s .undef) (List.replicate (X.sites + ex) (0, .dead))) else none
    | none => none,
    fun v args h => match v with
    | .fn (.func f) first cap => match compFnAt P f (unused h) with
      | some X => if (first ++ args ++ cap).length ≤ X.ntmps && (first.all one && cap.all one) then aretI X.results h.length (arunC (arunF P n ex d) n X.body (X.vars.map fun s => (first ++ args ++ cap).getD s .undef) h) else none
      | none => none
    | _ => none⟩
section
variable {FN : FNs} {call : Callee}
theorem arunOps_sound (hy : ∀ v a vs h K, (∃ r ws, FN.fi v a h r ws ∧ K r vs (upd h ws)) → FN.fy v a vs h K) (hc : ∀ f s a r, call.fn f s a = some r → FN.fn f s a r) (hi : ∀ v a h r ws, call.fi v a h = some (r, ws) → FN.fi v a h r ws) {Q : XSt → Prop} : ∀ {xs : List XOper} {st st' : XSt}, arunOps call xs st = some st' → Q st' → xrun FN xs st Q
  | [], st, st', h, hq => by simp only [arunOps, Option.some.injEq] at h; subst h; exact hq
  | x :: xs, st, st', h, hq => by
    cases hg : gdO st.loc st.vars x.guard with
    | none => simp only [arunOps, hg] at h; cases h
    | some c =>
      cases c with
      | false =>
        simp only [arunOps, hg] at h
        simp only [xrun, hg]
        exact arunOps_sound hy hc hi h hq
      | true =>
        cases hx : x.op
        case call f args ks al =>
          simp only [arunOps, hg, hx] at h
          simp only [xrun, hg, hx]
          split at h
          · rename_i r hr
            split at h
            · rename_i hok
              exact ⟨r, hc _ _ _ _ hr, hok, arunOps_sound hy hc hi h hq⟩
            · cases h
          · cases h
        case callv f args =>
          simp only [arunOps, hg, hx] at h
          simp only [xrun, hg, hx]
          split at h
          · rename_i r ws hr
            exact ⟨r, ws, hi _ _ _ _ _ hr, arunOps_sound hy hc hi h hq⟩
          · cases h
        case cally f args =>
          simp only [arunOps, hg, hx] at h
          simp only [xrun, hg, hx]
          split at h
          · rename_i r ws hr
            exact hy _ _ _ _ _ ⟨r, ws, hi _ _ _ _ _ hr, upd_length _ _, arunOps_sound hy hc hi h hq⟩
          · cases h
        all_goals
          simp only [arunOps, hg, hx] at h
          simp only [xrun, hg, hx]
          split at h
          · rename_i p ws ha
            rw [ha]
            exact arunOps_sound hy hc hi h hq
          · cases h
theorem arunC_sound (hy : ∀ v a vs h K, (∃ r ws, FN.fi v a h r ws ∧ K r vs (upd h ws)) → FN.fy v a vs h K) (hc : ∀ f s a r, call.fn f s a = some r → FN.fn f s a r) (hi : ∀ v a h r ws, call.fi v a h = some (r, ws) → FN.fi v a h r ws) {n : Nat} : ∀ {c : XCode} {Q : XPost} {vs vs' : List PV} {h h' : Heap} {e : XExit}, arunC call n c vs h = some (e, vs', h') → Q e vs' h' → xwp FN c Q vs h := by
  intro c
  induction c with
  | skip => intro Q vs vs' h h' e hr hq; simp only [arunC, Option.some.injEq, Prod.mk.injEq] at hr; obtain ⟨rfl, rfl, rfl⟩ := hr; exact hq
  | reg xs =>
    intro Q vs vs' h h' e hr hq
    simp only [arunC] at hr
    split at hr
    · rename_i hs
      split at hr
      · rename_i st hst
        simp only [Option.some.injEq, Prod.mk.injEq] at hr
        obtain ⟨rfl, rfl, rfl⟩ := hr
        exact ⟨hs, arunOps_sound hy hc hi hst hq⟩
      · cases hr
    · cases hr
  | seq a b iha ihb =>
    intro Q vs vs' h h' e hr hq
    simp only [arunC] at hr
    split at hr
    · rename_i vs1 h1 ha
      exact iha ha (ihb hr hq)
    · rename_i hne
      refine iha hr ?_
      cases e with
      | normal => exact absurd hr (hne vs' h')
      | exit id => exact hq
      | ret => exact hq
  | cond cd a b iha ihb =>
    intro Q vs vs' h h' e hr hq
    simp only [arunC] at hr
    simp only [xwp]
    split at hr
    · rename_i hb; rw [hb]; exact iha hr hq
    · rename_i hb; rw [hb]; exact ihb hr hq
    · cases hr
  | block id b ih =>
    intro Q vs vs' h h' e hr hq
    simp only [arunC] at hr
    split at hr
    · rename_i i vs1 h1 hb
      refine ih hb ?_
      simp only [xin]
      split at hr
      · rename_i hi
        simp only [Option.some.injEq, Prod.mk.injEq] at hr
        obtain ⟨rfl, rfl, rfl⟩ := hr
        rw [if_pos hi]; exact hq
      · rename_i hi
        simp only [Option.some.injEq, Prod.mk.injEq] at hr
        obtain ⟨rfl, rfl, rfl⟩ := hr
        rw [if_neg hi]; exact hq
    · rename_i hne
      refine ih hr ?_
      cases e with
      | normal => exact hq
      | exit i => exact absurd hr (hne i vs' h')
      | ret => exact hq
  | loop b ih =>
    intro Q vs vs' h h' e hr hq
    simp only [arunC] at hr
    refine ⟨n, ?_⟩
    generalize hm : n = m at hr
    have hr' : aloop (arunC call n b) m vs h = some (e, vs', h') := by rw [← hm] at hr ⊢; exact hr
    clear hm hr
    induction m generalizing vs h with
    | zero => simp only [aloop] at hr'; cases hr'
    | succ m ihm =>
      simp only [aloop] at hr'
      simp only [xloop]
      split at hr'
      · rename_i vs1 h1 hb
        exact ih hb (ihm hr')
      · rename_i hne
        refine ih hr' ?_
        cases e with
        | normal => exact absurd hr' (hne vs' h')
        | exit i => exact hq
        | ret => exact hq
  | loopS lv c0 b ih => intro Q vs vs' h h' e hr hq; simp only [arunC] at hr; cases hr
  | frz l b ih => intro Q vs vs' h h' e hr hq; simp only [arunC] at hr; cases hr
  | rfor => intro Q vs vs' h h' e hr hq; simp only [arunC] at hr; cases hr
  | mat => intro Q vs vs' h h' e hr hq; simp only [arunC] at hr; cases hr
  | exit id => intro Q vs vs' h h' e hr hq; simp only [arunC, Option.some.injEq, Prod.mk.injEq] at hr; obtain ⟨rfl, rfl, rfl⟩ := hr; exact hq
  | ret => intro Q vs vs' h h' e hr hq; simp only [arunC, Option.some.injEq, Prod.mk.injEq] at hr; obtain ⟨rfl, rfl, rfl⟩ := hr; exact hq
theorem upd_all : ∀ {h h0 : Heap} {pre : Heap}, h0.length = h.length → upd (pre ++ h0) (allRows pre.length h) = pre ++ h
  | [], [], pre, _ => by simp [allRows, upd]
  | [], _ :: _, _, h => by simp at h
  | _ :: _, [], _, h => by simp at h
  | r :: h, r0 :: h0, pre, hl => by
    show upd ((pre ++ r0 :: h0).set pre.length r) (allRows (pre.length + 1) h) = _
    have e : (pre ++ r0 :: h0).set pre.length r = (pre ++ [r]) ++ h0 := by
      rw [List.set_append_right _ _ (Nat.le_refl _)]; simp
    rw [e]
    have := upd_all (h := h) (h0 := h0) (pre := pre ++ [r]) (by simpa using hl)
    rw [List.length_append] at this
    simpa using this
theorem fn_introN {P : Program} (hm : P.follows .mixedOrders = true) {f : FuncId} {X : XFn} (hc : compFn P f = some X) {ex : Nat} {szs : List Nat} {args : List PV} {r : PV} (hlen : args.length ≤ X.ntmps)
    (hx : xwp (fns P) X.body (xret X.results szs r) (X.vars.map fun s => args.getD s .undef) (List.replicate (X.sites + ex) (0, .dead))) : Fn P f szs args r := by
  unfold compFn at hc
  dsimp only at hc
  split at hc
  · cases hc
  · rename_i fn hfn
    split at hc
    · cases hc
    · rename_i c hbody
      split at hc
      · rename_i x k rs hcode hres
        split at hc
        · rename_i hcond
          obtain ⟨hnm, hnd, hall, hpar⟩ := hcond
          cases hc
          refine ⟨by unfold callable; rw [hfn]; simpa [hbody] using hnm, fun w Z vargs hz hargs => ?_⟩
          refine (callsIn_fz (ρ := none) (n := 0)).1 (callsIn_of_wp_marks hfn hbody trivial ?_)
          refine code_sound hm (nodupN_spec hnd) c 0 k x hcode _ _ _ _ _ _ hx (enter_fn hall hz hargs hlen) fun e vars h a w' hi' he => ?_
          obtain ⟨he1, l, he2, he3, he4, rfl⟩ := he
          cases e with
          | normal => exact leave_fn hres hi' he2 he3 he4
          | ret => exact leave_fn hres hi' he2 he3 he4
          | exit id => exact he1.elim
        · cases hc
      · cases hc
theorem arunF_both {P : Program} (hm : P.follows .mixedOrders = true) {n ex : Nat} : ∀ (d : Nat), (∀ (f : FuncId) (szs : List Nat) (args : List PV) (r : PV), (arunF P n ex d).fn f szs args = some r → Fn P f szs args r) ∧
    (∀ (v : PV) (args : List PV) (h : Heap) (r : PV) (ws : List (Nat × Row)), (arunF P n ex d).fi v args h = some (r, ws) → FI P v args h r ws)
  | 0 => ⟨fun f szs args r h => (by simp [arunF] at h), fun v args h r ws e => (by simp [arunF] at e)⟩
  | d + 1 => by
    obtain ⟨ih1, ih2⟩ := arunF_both hm (n := n) (ex := ex) d
    refine ⟨fun f szs args r h => ?_, fun v args h r ws e => ?_⟩
    · simp only [arunF] at h
      split at h
      · rename_i X hX
        split at h
        · rename_i hl
          refine fn_introN hm hX (ex := ex) hl ?_
          cases ho : arunC (arunF P n ex d) n X.body (X.vars.map fun s => args.getD s .undef) (List.replicate (X.sites + ex) (0, .dead)) with
          | none => rw [ho] at h; simp only [aret] at h; cases h
          | some o =>
            obtain ⟨e, vs, hp⟩ := o
            rw [ho] at h
            refine arunC_sound (FN := fns P) (call := arunF P n ex d) (n := n) (fun _ _ _ _ _ h => h) ih1 ih2 (e := e) (vs' := vs) (h' := hp) ho ?_
            cases e with
            | exit id => simp only [aret] at h; cases h
            | normal | ret =>
              simp only [aret] at h
              split at h
              · rename_i l hl'
                split at h
                · rename_i hok
                  simp only [Bool.and_eq_true] at hok
                  simp only [Option.some.injEq] at h
                  exact ⟨trivial, l, hl', hok.1, hok.2, h⟩
                · cases h
              · cases h
        · cases h
      · cases h
    · simp only [arunF] at e
      split at e
      · rename_i f first cap
        split at e
        · rename_i X hX
          split at e
          · rename_i hl
            rw [Bool.and_eq_true, decide_eq_true_eq] at hl
            refine fn_introI hm hX hl.1 hl.2 ?_
            cases ho : arunC (arunF P n ex d) n X.body (X.vars.map fun s => (first ++ args ++ cap).getD s .undef) h with
            | none => rw [ho] at e; simp only [aretI] at e; cases e
            | some o =>
              obtain ⟨ex', vs, hp⟩ := o
              rw [ho] at e
              refine arunC_sound (FN := fns P) (call := arunF P n ex d) (n := n) (fun _ _ _ _ _ h => h) ih1 ih2 (e := ex') (vs' := vs) (h' := hp) ho ?_
              cases ex' with
              | exit id => simp only [aretI] at e; cases e
              | normal | ret =>
                simp only [aretI] at e
                split at e
                · rename_i l hl'
                  split at e
                  · rename_i hok
                    simp only [Bool.and_eq_true, beq_iff_eq] at hok
                    simp only [Option.some.injEq, Prod.mk.injEq] at e
                    obtain ⟨e1, e2⟩ := e
                    refine ⟨trivial, l, hl', hok.1, e1, ?_⟩
                    rw [← e2]
                    have := upd_all (h := hp) (h0 := h) (pre := []) hok.2.symm
                    simpa using this.symm
                  · cases e
                · cases e
          · cases e
        · cases e
      · cases e
theorem arunF_sound {P : Program} (hm : P.follows .mixedOrders = true) {n ex : Nat} {d : Nat} {f : FuncId} {szs : List Nat} {args : List PV} {r : PV} (h : (arunF P n ex d).fn f szs args = some r) : Fn P f szs args r :=
  (arunF_both hm d).1 f szs args r h
end
end Go.Proofs.Ytgdcogoacnghkaa.Am
/-
  Rules: what follows is weaker; loops.
-/
namespace Go.Proofs.Ytgdcogoacnghkaa.Am
set_option linter.unusedSimpArgs false
set_option linter.unusedVariables false
set_option linter.unusedSectionVars false
open Go.RowKit
section
variable {FN : FNs}
theorem xrun_mono {Q Q' : XSt → Prop} (hq : ∀ st, Q st → Q' st) : ∀ {xs : List XOper} {st : XSt}, xrun FN xs st Q → xrun FN xs st Q'
  | [], st, h => hq _ h
  | x :: xs, st, h => by
    cases hg : gdO st.loc st.vars x.guard with
    | none => simp only [xrun, hg] at h
    | some c =>
      cases c with
      | false => simp only [xrun, hg] at h ⊢; exact xrun_mono hq h
      | true =>
        cases hx : x.op
        case call f args ks al =>
          simp only [xrun, hg, hx] at h ⊢
          obtain ⟨r, h1, h2, h3⟩ := h
          exact ⟨r, h1, h2, xrun_mono hq h3⟩
        case callv f args =>
          simp only [xrun, hg, hx] at h ⊢
          obtain ⟨r, ws, h1, h2⟩ := h
          exact ⟨r, ws, h1, xrun_mono hq h2⟩
        case cally f args =>
          simp only [xrun, hg, hx] at h ⊢
          exact FN.my (fun _ _ _ h1 => ⟨h1.1, xrun_mono hq h1.2⟩) h
        all_goals
          simp only [xrun, hg, hx] at h ⊢
          split at h
          · exact xrun_mono hq h
          · exact h.elim
theorem xthen_mono {K K' : List PV → Heap → Prop} {Q Q' : XPost} (hk : ∀ vs h, K vs h → K' vs h) (hq : ∀ e vs h, Q e vs h → Q' e vs h) : ∀ e vs h, xthen K Q e vs h → xthen K' Q' e vs h := by
  intro e vs h hh
  cases e with
  | normal => exact hk _ _ hh
  | exit id => exact hq _ _ _ hh
  | ret => exact hq _ _ _ hh
theorem xloop_mono {body : XPost → List PV → Heap → Prop} (hb : ∀ {Q Q' : XPost}, (∀ e vs h, Q e vs h → Q' e vs h) → ∀ {vs h}, body Q vs h → body Q' vs h) {Q Q' : XPost} (hq : ∀ e vs h, Q e vs h → Q' e vs h) : ∀ {n : Nat} {vs : List PV} {h : Heap}, xloop body Q n vs h → xloop body Q' n vs h
  | 0, _, _, hh => hh
  | n + 1, vs, h, hh => hb (xthen_mono (fun _ _ => xloop_mono hb hq) hq) hh
theorem xwp_mono : ∀ {c : XCode} {Q Q' : XPost}, (∀ e vs h, Q e vs h → Q' e vs h) → ∀ {vs : List PV} {h : Heap}, xwp FN c Q vs h → xwp FN c Q' vs h := by
  intro c
  induction c with
  | skip => intro Q Q' hq vs h hh; exact hq _ _ _ hh
  | reg xs => intro Q Q' hq vs h hh; exact ⟨hh.1, xrun_mono (fun st => hq _ _ _) hh.2⟩
  | seq a b iha ihb => intro Q Q' hq vs h hh; exact iha (xthen_mono (fun _ _ => ihb hq) hq) hh
  | cond c a b iha ihb =>
    intro Q Q' hq vs h hh
    simp only [xwp] at hh ⊢
    split at hh
    · exact iha hq hh
    · exact ihb hq hh
    · exact hh.elim
  | block id b ih =>
    intro Q Q' hq vs h hh
    refine ih (fun e vs h he => ?_) hh
    cases e with
    | normal => exact hq _ _ _ he
    | ret => exact hq _ _ _ he
    | exit i =>
      simp only [xin] at he ⊢
      split at he
      · rename_i e; rw [if_pos e]; exact hq _ _ _ he
      · rename_i e; rw [if_neg e]; exact hq _ _ _ he
  | loop b ih =>
    intro Q Q' hq vs h hh
    obtain ⟨n, hh⟩ := hh
    exact ⟨n, xloop_mono (body := xwp FN b) (fun hq _ _ hb => ih hq hb) hq hh⟩
  | loopS lv c0 b ih =>
    intro Q Q' hq vs h hh
    obtain ⟨n, hh⟩ := hh
    exact ⟨n, xloop_mono (body := fun Q vs h => settled lv c0 vs h (xwp FN b Q)) (fun hq _ _ hb => ⟨hb.1, ih hq hb.2⟩) hq hh⟩
  | frz l b ih => intro Q Q' hq vs h hh; exact ih hq hh
  | mat v c k sz b ih => intro Q Q' hq vs h hh; exact ih hq hh
  | rfor g ps a b iha ihb => intro Q Q' hq vs h hh; exact FN.mi (fun _ _ h1 => hq _ _ _ h1) hh
  | exit id => intro Q Q' hq vs h hh; exact hq _ _ _ hh
  | ret => intro Q Q' hq vs h hh; exact hq _ _ _ hh
/-- A LOOP whose states are settled: a relation and a measure -/
theorem loopS_rule {σ : Type} (I : σ → List PV → Heap → Prop) (μ : σ → Nat) {lv : List Nat} {c0 : Nat} {b : XCode} {Q : XPost} {vs : List PV} {h : Heap} (s : σ) (hstart : settled lv c0 vs h (I s))
    (hround : ∀ s vs h, I s vs h → xwp FN b (xthen (fun vs h => settled lv c0 vs h fun vs h => ∃ s', I s' vs h ∧ μ s' < μ s) Q) vs h) : xwp FN (.loopS lv c0 b) Q vs h := by
  have key : ∀ n s vs h, μ s < n → settled lv c0 vs h (I s) → xloop (fun Q vs h => settled lv c0 vs h (xwp FN b Q)) Q n vs h := by
    intro n
    induction n with
    | zero => intro s vs h hn; omega
    | succ n ih =>
      intro s vs h hn hs
      refine ⟨hs.1, xwp_mono (xthen_mono (fun vs h hh => ?_) fun _ _ _ => id) (hround s _ _ hs.2)⟩
      obtain ⟨h1, s', h2, h3⟩ := hh
      exact ih s' vs h (by omega) ⟨h1, h2⟩
  exact ⟨μ s + 1, key _ s vs h (by omega) hstart⟩
end
end Go.Proofs.Ytgdcogoacnghkaa.Am
/-
  What comes in, as plain values of a shape; a law's statement out of what its function gives.
-/
namespace Go.Proofs.Ytgdcogoacnghkaa.Am
set_option linter.unusedSimpArgs false
set_option linter.unusedVariables false
set_option linter.unusedSectionVars false
open Go.ChangeShapes Go.WideShapes Go.ChangeAt Go.RowKit Go.Deep

inductive Sh where
  | bool
  | int (k : IntKind)
  | str
  | slc (e : Sh)
  | agg (f : Sh)
  | fd (a r : Sh)
  | en
abbrev Sh.T : Sh → Type
  | .bool => Bool
  | .int _ => Int
  | .str => ByteArray
  | .slc e => List e.T
  | .agg f => f.T
  | .fd a r => a.T × r.T
  | .en => Unit
def Sh.pvOf : Sh → List PV → PV
  | .agg _, cs => .agg cs
  | _, cs => cs.headD .undef
def Sh.cells : (s : Sh) → s.T → List PV
  | .bool, b => [.bool b]
  | .int k, n => [.int k n]
  | .str, s => [.str s]
  | .slc e, xs => [.slc (List.map (fun x => e.pvOf (e.cells x)) xs)]
  | .agg f, x => f.cells x
  | .fd a r, x => a.cells x.1 ++ r.cells x.2
  | .en, _ => []
def Sh.pv (s : Sh) (x : s.T) : PV := s.pvOf (s.cells x)
def Sh.ok : (s : Sh) → s.T → Prop
  | .bool, _ => True
  | .int k, n => (Lit.int k n).wf = true
  | .str, s => s.size ≤ maxLen
  | .slc e, xs => List.length xs ≤ maxLen ∧ ∀ x ∈ (show List e.T from xs), e.ok x
  | .agg f, x => f.ok x
  | .fd a r, x => a.ok x.1 ∧ r.ok x.2
  | .en, _ => True
/-- of a list of shapes: the values one by one -/
def Sh.pvs : (s : Sh) → s.T → List PV
  | .fd a r, x => a.pv x.1 :: r.pvs x.2
  | _, _ => []
def shF (P : Program) (chk : TypeId → Sh → Bool) (tot : Nat) : List Field → Nat → Sh → Bool
  | [], acc, .en => acc == tot
  | fd :: fs, acc, .fd a r => fd.offset == acc && chk fd.type a && shF P chk tot fs (acc + P.cellsOf fd.type) r
  | _, _, _ => false
def shA (chk : TypeId → Sh → Bool) (sz tot : Nat) (e : TypeId) : Nat → Nat → Sh → Bool
  | 0, i, .en => i * sz == tot
  | m + 1, i, .fd a r => chk e a && shA chk sz tot e m (i + 1) r
  | _, _, _ => false
def shp (P : Program) : Nat → TypeId → Sh → Bool
  | 0, _, _ => false
  | n + 1, t, s => match P.underlying t, s with
    | some .bool, .bool => true
    | some (.int k), .int k' => decide (k = k')
    | some .string, .str => true
    | some (.slice e), .slc se => shp P n e se && Nat.blt 0 (P.cellsOf e)
    | some (.struct fs), .agg f => shF P (shp P n) (P.cellsOf t) fs.toList 0 f
    | some (.array m e), .agg f => shA (shp P n) (P.cellsOf e) (P.cellsOf t) e m 0 f
    | _, _ => false
def shL (P : Program) (n : Nat) : List TypeId → Sh → Bool
  | [], .en => true
  | t :: ts, .fd a r => shp P n t a && shL P n ts r
  | _, _ => false

def CsRep (Z : Nat → Prop) (w : World) : List Value → List PV → Prop
  | [], [] => True
  | v :: vs, c :: cs => (one c = true ∧ PR Z w v c) ∧ CsRep Z w vs cs
  | _, _ => False
theorem CsRep.len {Z : Nat → Prop} {w : World} : ∀ {vs : List Value} {cs : List PV}, CsRep Z w vs cs → vs.length = cs.length
  | [], [], _ => rfl
  | _ :: vs, _ :: cs, h => by simp [CsRep.len h.2]
  | [], _ :: _, h => h.elim
  | _ :: _, [], h => h.elim
theorem CsRep.get {Z : Nat → Prop} {w : World} : ∀ {vs : List Value} {cs : List PV}, CsRep Z w vs cs → ∀ (i : Nat) c, cs[i]? = some c → one c = true ∧ ∃ u, vs[i]? = some u ∧ PR Z w u c
  | [], [], _, i, c, h => by simp at h
  | v :: vs, c0 :: cs, h, 0, c, hc => by simp at hc; subst hc; exact ⟨h.1.1, v, rfl, h.1.2⟩
  | v :: vs, c0 :: cs, h, i + 1, c, hc => by
    have := CsRep.get h.2 i c (by simpa using hc)
    simpa using this
  | [], _ :: _, h, _, _, _ => h.elim
  | _ :: _, [], h, _, _, _ => h.elim
theorem CsRep.append {Z : Nat → Prop} {w : World} : ∀ {vs us : List Value} {cs ds : List PV}, CsRep Z w vs cs → CsRep Z w us ds → CsRep Z w (vs ++ us) (cs ++ ds)
  | [], _, [], _, _, h => h
  | _ :: _, _, _ :: _, _, h, h' => ⟨h.1, CsRep.append h.2 h'⟩
  | [], _, _ :: _, _, h, _ => h.elim
  | _ :: _, _, [], _, h, _ => h.elim
theorem list_of {α : Type} {p : Nat → α → Prop} : ∀ {n : Nat}, (∀ i, i < n → ∃ x, p i x) → ∃ l : List α, l.length = n ∧ ∀ (i : Nat) x, l[i]? = some x → p i x
  | 0, _ => ⟨[], rfl, by simp⟩
  | n + 1, h => by
    obtain ⟨l, h1, h2⟩ := list_of (n := n) fun i hi => h i (by omega)
    obtain ⟨x, hx⟩ := h n (by omega)
    refine ⟨l ++ [x], by simp [h1], fun i y hy => ?_⟩
    by_cases hi : i < n
    · rw [List.getElem?_append_left (by omega)] at hy; exact h2 i y hy
    · rw [List.getElem?_append_right (by omega)] at hy
      have : i - l.length = 0 := by
        have := (List.getElem?_eq_some_iff.1 hy).1
        simp at this; omega
      rw [this] at hy; simp at hy; subst hy
      have : i = n := by omega
      subst this; exact hx
theorem cell_isC {w : World} {a : Addr} {v : Value} (h : w.cell? a = some v) : isC w a.block := by
  obtain ⟨o, h1, h2⟩ := cells_of_cell h
  cases o <;> first | exact isC.of h1 | cases h2
theorem ecells_pvOf {P : Program} {n : Nat} {t : TypeId} {s : Sh} (h : shp P n t s = true) (x : s.T) : ecells (s.pvOf (s.cells x)) = s.cells x := by
  cases n with
  | zero => simp [shp] at h
  | succ n =>
    cases s <;> simp [Sh.pvOf, Sh.cells, ecells]
    all_goals (simp only [shp] at h; split at h <;> first | contradiction | simp_all)
section
variable {H : Type} {enc : TypeId × Value → H} {P : Program} {w : World} {sp : Nat → Bool}
abbrev Zw (w : World) : Nat → Prop := fun b => isC w b
theorem shF_rep {chk : TypeId → Sh → Bool} {fuel tot : Nat} {cs : List Value} (ih : ∀ (s : Sh) (t : TypeId) (cs : List Value) x, chk t s = true → DataW.trod enc P w 0 sp true fuel t cs = some x → ∃ y : s.T, s.ok y ∧ CsRep (Zw w) w cs (s.cells y)) (hlen : cs.length = tot) :
    ∀ (fs : List Field) (acc : Nat) (f : Sh) (r : List (DataW H × List MemPlace)), shF P chk tot fs acc f = true → fs.mapM (fun g => DataW.trod enc P w 0 sp true fuel g.type ((cs.drop g.offset).take (P.cellsOf g.type))) = some r → ∃ y : f.T, f.ok y ∧ CsRep (Zw w) w (cs.drop acc) (f.cells y)
  | [], acc, f, r, h, _ => by
    cases f <;> simp only [shF] at h <;> first | contradiction | skip
    refine ⟨(), trivial, ?_⟩
    have : acc = tot := by simpa using h
    subst this
    rw [← hlen, List.drop_length]; exact trivial
  | fd :: fs, acc, f, r, h, hm => by
    cases f <;> simp only [shF] at h <;> first | contradiction | skip
    rename_i a rr
    simp only [Bool.and_eq_true, beq_iff_eq] at h
    obtain ⟨⟨h1, h2⟩, h3⟩ := h
    obtain ⟨x, hx⟩ := mapM_each hm fd (by simp)
    rw [List.mapM_cons] at hm
    rw [hx] at hm
    cases hr : fs.mapM (fun g => DataW.trod enc P w 0 sp true fuel g.type ((cs.drop g.offset).take (P.cellsOf g.type))) with
    | none => simp [hr] at hm
    | some r' =>
      obtain ⟨y1, o1, c1⟩ := ih _ _ _ _ h2 hx
      obtain ⟨y2, o2, c2⟩ := shF_rep ih hlen fs _ rr r' h3 hr
      refine ⟨(y1, y2), ⟨o1, o2⟩, ?_⟩
      have := c1.append c2
      rw [h1] at this
      rw [show cs.drop acc = (cs.drop acc).take (P.cellsOf fd.type) ++ cs.drop (acc + P.cellsOf fd.type) by rw [← List.drop_drop, List.take_append_drop]]
      exact this
theorem shA_rep {chk : TypeId → Sh → Bool} {fuel tot : Nat} {e : TypeId} {cs : List Value} (ih : ∀ (s : Sh) (t : TypeId) (cs : List Value) x, chk t s = true → DataW.trod enc P w 0 sp true fuel t cs = some x → ∃ y : s.T, s.ok y ∧ CsRep (Zw w) w cs (s.cells y)) (hlen : cs.length = tot) :
    ∀ (m i : Nat) (f : Sh), shA chk (P.cellsOf e) tot e m i f = true → (∀ j, j < m → ∃ x, DataW.trod enc P w 0 sp true fuel e ((cs.drop ((i + j) * P.cellsOf e)).take (P.cellsOf e)) = some x) → ∃ y : f.T, f.ok y ∧ CsRep (Zw w) w (cs.drop (i * P.cellsOf e)) (f.cells y)
  | 0, i, f, h, _ => by
    cases f <;> simp only [shA] at h <;> first | contradiction | skip
    refine ⟨(), trivial, ?_⟩
    have : i * P.cellsOf e = tot := by simpa using h
    rw [this, ← hlen, List.drop_length]; exact trivial
  | m + 1, i, f, h, hm => by
    cases f <;> simp only [shA] at h <;> first | contradiction | skip
    rename_i a rr
    simp only [Bool.and_eq_true] at h
    obtain ⟨h2, h3⟩ := h
    obtain ⟨x, hx⟩ := hm 0 (by omega)
    obtain ⟨y1, o1, c1⟩ := ih _ _ _ _ h2 hx
    obtain ⟨y2, o2, c2⟩ := shA_rep ih hlen m (i + 1) rr h3 fun j hj => by
      obtain ⟨x, hx⟩ := hm (j + 1) (by omega)
      exact ⟨x, by rw [show i + 1 + j = i + (j + 1) by omega]; exact hx⟩
    refine ⟨(y1, y2), ⟨o1, o2⟩, ?_⟩
    have := c1.append c2
    rw [Nat.add_zero] at this
    rw [show cs.drop (i * P.cellsOf e) = (cs.drop (i * P.cellsOf e)).take (P.cellsOf e) ++ cs.drop ((i + 1) * P.cellsOf e) by rw [Nat.add_mul, Nat.one_mul, ← List.drop_drop, List.take_append_drop]]
    exact this
theorem trod_sh : ∀ (n : Nat) (s : Sh) (t : TypeId) (fuel : Nat) (cs : List Value) (x : DataW H × List MemPlace), shp P n t s = true → DataW.trod enc P w 0 sp true fuel t cs = some x → ∃ y : s.T, s.ok y ∧ CsRep (Zw w) w cs (s.cells y) := by
  intro n
  induction n with
  | zero => intro s t fuel cs x h; simp [shp] at h
  | succ n ih =>
    intro s t fuel cs x h hx
    simp only [shp] at h
    cases fuel with
    | zero => simp [DataW.trod] at hx
    | succ fuel =>
      split at h
      · rename_i hu
        obtain ⟨b, rfl⟩ : ∃ b, cs = [.bool b] := by
          unfold DataW.trod at hx; rw [hu] at hx; split at hx <;> simp_all
        exact ⟨b, trivial, ⟨rfl, 0, rfl⟩, trivial⟩
      · rename_i k k' hu
        obtain rfl : k = k' := by simpa using h
        obtain ⟨m, rfl, hw⟩ : ∃ m, cs = [.int k m] ∧ (Lit.int k m).wf = true := by
          unfold DataW.trod at hx; rw [hu] at hx; split at hx <;> simp_all
        exact ⟨m, hw, ⟨rfl, 0, rfl⟩, trivial⟩
      · rename_i hu
        obtain ⟨b, rfl, hw⟩ : ∃ b, cs = [.string b] ∧ b.size ≤ maxLen := by
          unfold DataW.trod at hx; rw [hu] at hx; split at hx <;> simp_all
        exact ⟨b, hw, ⟨rfl, 0, rfl⟩, trivial⟩
      · rename_i e se hu
        simp only [Bool.and_eq_true] at h
        obtain ⟨h1, h2⟩ := h
        have h2 : 0 < P.cellsOf e := by simpa using h2
        rcases open_slice hu hx with ⟨rfl, _⟩ | ⟨a, len, cap, m, n', D, Pl, rfl, _, hl, hc, hm, _, hel⟩
        · refine ⟨[], ⟨by simp, by simp⟩, ⟨rfl, ?_⟩, trivial⟩
          exact PR.slc_iff.2 ⟨none, 0, 0, by simp, by simp, by simp [maxLen], by simp, by simp⟩
        · have hlm : len ≤ m := by rw [hm]; split <;> omega
          obtain ⟨l, l1, l2⟩ := list_of (α := se.T) (p := fun i y => se.ok y ∧ ∃ cs', w.cells? 0 (a.add (i * P.cellsOf e)) (P.cellsOf e) = some cs' ∧ CsRep (Zw w) w cs' (se.cells y)) (n := len) fun i hi => by
            obtain ⟨cs', e1, e2⟩ := hel i (by omega)
            obtain ⟨y, y1, y2⟩ := ih _ _ _ _ _ h1 e2
            exact ⟨y, y1, cs', e1, y2⟩
          refine ⟨l, ⟨by rw [l1]; omega, fun y hy => ?_⟩, ⟨rfl, ?_⟩, trivial⟩
          · obtain ⟨i, hi⟩ := List.mem_iff_getElem?.1 hy
            exact (l2 i y hi).1
          · refine PR.slc_iff.2 ⟨some a, cap, P.cellsOf e, by simp [l1], by simp [l1]; exact hl, hc, by simp, fun i p hp => ?_⟩
            rw [List.getElem?_map] at hp
            obtain ⟨y, hy, rfl⟩ := Option.map_eq_some_iff.1 hp
            obtain ⟨_, cs', e1, e2⟩ := l2 i y hy
            rw [ecells_pvOf h1]
            unfold World.cells? at e1
            simp only [Nat.zero_le, if_true] at e1
            have hlen' : cs'.length = P.cellsOf e := by rw [mapM_some_length e1, List.length_range]
            have hget : ∀ j, j < P.cellsOf e → w.cell? ((a.add (i * P.cellsOf e)).add j) = cs'[j]? := fun j hj => mapM_some_get e1 j j (by simp [hj])
            have h00 := hget 0 h2
            rw [List.getElem?_eq_getElem (by omega)] at h00
            have hs := World.cell?_spot h00
            have hlt := cell_isC h00
            refine ⟨by rw [← e2.len, hlen'], a.block, a.off, ?_, ?_, fun j c hc => ?_⟩
            · by_cases hi : i * P.cellsOf e = 0
              · rw [hi] at hs; simp [Addr.add] at hs; cases a; simp_all
              · have hi0 : i ≠ 0 := by rintro rfl; simp at hi
                obtain ⟨y0, hy0⟩ : ∃ y0, l[0]? = some y0 := ⟨l[0]'(by have := (List.getElem?_eq_some_iff.1 hy).1; omega), List.getElem?_eq_getElem _⟩
                obtain ⟨_, cs0, f1, _⟩ := l2 0 y0 hy0
                unfold World.cells? at f1
                simp only [Nat.zero_le, if_true] at f1
                have f2 := mapM_some_get f1 0 0 (by simp [h2])
                have f3 : cs0.length = P.cellsOf e := by rw [mapM_some_length f1, List.length_range]
                rw [List.getElem?_eq_getElem (by omega)] at f2
                have := World.cell?_spot f2
                simp [Addr.add] at this; cases a; simp_all
            · have : ((a.add (i * P.cellsOf e)).add 0).block = a.block := by unfold Addr.add; split <;> split <;> rfl
              rw [this] at hlt; exact hlt
            · obtain ⟨g1, u, g2, g3⟩ := e2.get j c hc
              have hj : j < P.cellsOf e := by rw [← hlen']; exact (List.getElem?_eq_some_iff.1 g2).1
              refine ⟨g1, u, ?_, g3⟩
              have hj' := hget j hj
              rw [g2] at hj'
              have hs' := World.cell?_spot hj'
              rw [← hj']
              congr 1
              rw [Go.Deep.add_add] at hs' ⊢
              unfold Addr.add at hs' ⊢
              split
              · rename_i hz; rw [if_pos hz] at hs'; cases a; simp_all
              · rfl
      · rename_i fs f hu
        unfold DataW.trod at hx; rw [hu] at hx
        simp only at hx
        split at hx
        · rename_i hlen
          cases hr : fs.toList.mapM (fun g => DataW.trod enc P w 0 sp true fuel g.type ((cs.drop g.offset).take (P.cellsOf g.type))) with
          | none => rw [hr] at hx; simp at hx
          | some r =>
            obtain ⟨y, y1, y2⟩ := shF_rep (fun s t cs x a b => ih s t fuel cs x a b) hlen _ _ _ r h hr
            exact ⟨y, y1, by simpa [Sh.cells] using y2⟩
        · cases hx
      · rename_i m e f hu
        unfold DataW.trod at hx; rw [hu] at hx
        simp only at hx
        split at hx
        · rename_i hlen
          cases hr : (List.range m).mapM (fun i => DataW.trod enc P w 0 sp true fuel e ((cs.drop (i * P.cellsOf e)).take (P.cellsOf e))) with
          | none => rw [hr] at hx; simp at hx
          | some r =>
            obtain ⟨y, y1, y2⟩ := shA_rep (fun s t cs x a b => ih s t fuel cs x a b) hlen m 0 f h fun j hj => mapM_each hr (0 + j) (by simpa using hj)
            exact ⟨y, y1, by simpa [Sh.cells] using y2⟩
        · cases hx
      · cases h
theorem vrep_pr {Z : Nat → Prop} {v : Value} {c : PV} (h1 : one c = true) (h : PR Z w v c) (n : Nat) : VRep (G0 Z) [] w n v c := by
  obtain ⟨m, h⟩ := h
  cases c <;> first | (simp [one] at h1; done) | (unfold PRep at h; exact h.elim) | skip
  all_goals first | (unfold PRep at h; unfold VRep; exact h) | (unfold VRep; exact ⟨m, h⟩)
theorem csrep_lrep {Z : Nat → Prop} {vs : Array Value} {cs : List PV} (h : CsRep Z w vs.toList cs) (n : Nat) : LRep (VRep (G0 Z) [] w n) vs cs :=
  ⟨by have := h.len; simpa using this, fun i c hc => by
    obtain ⟨h1, u, h2, h3⟩ := h.get i c hc
    exact ⟨u, by simpa using h2, vrep_pr h1 h3 n⟩⟩
theorem arg_sh {n : Nat} {s : Sh} {t : TypeId} {v : Value} {d : DataW H} {ps : List MemPlace} {base : Nat} (hs : shp P n t s = true) (hok : Value.okWide P w .any base t v) (hd : DataW.Trod enc P w 0 sp true t v d ps) : ∃ y : s.T, s.ok y ∧ VRep (G0 (Zw w)) [] w D v (s.pv y) := by
  obtain ⟨fuel, hd⟩ := hd
  obtain ⟨y, y1, y2⟩ := trod_sh n s t fuel _ _ hs hd
  refine ⟨y, y1, ?_⟩
  cases n with
  | zero => simp [shp] at hs
  | succ n =>
    simp only [shp] at hs
    have single : ∀ c, s.cells y = [c] → s.pv y = c → (∀ cs, v ≠ .agg cs) → VRep (G0 (Zw w)) [] w D v (s.pv y) := by
      intro c h1 h2 h3
      have : v.cells.toList = [v] := by cases v <;> first | rfl | exact absurd rfl (h3 _)
      rw [this, h1] at y2
      rw [h2]; exact vrep_pr y2.1.1 y2.1.2 _
    split at hs
    · rename_i hu; exact single _ rfl rfl (by rintro cs rfl; simp [Value.okWide, hu, Cell.okWide, Cell.ok] at hok)
    · rename_i hu; exact single _ rfl rfl (by rintro cs rfl; simp [Value.okWide, hu, Cell.okWide, Cell.ok] at hok)
    · rename_i hu; exact single _ rfl rfl (by rintro cs rfl; simp [Value.okWide, hu, Cell.okWide, Cell.ok] at hok)
    · rename_i hu; exact single _ rfl rfl (by rintro cs rfl; simp [Value.okWide, hu, Cell.okWide, Cell.ok] at hok)
    · rename_i hu
      unfold Value.okWide at hok; rw [hu] at hok
      obtain ⟨cs, rfl, _, _⟩ := hok
      show VRep _ _ _ (5 + 1) _ (.agg _)
      unfold VRep
      exact ⟨cs, rfl, csrep_lrep y2 5⟩
    · rename_i hu
      unfold Value.okWide at hok; rw [hu] at hok
      obtain ⟨cs, rfl, _, _⟩ := hok
      show VRep _ _ _ (5 + 1) _ (.agg _)
      unfold VRep
      exact ⟨cs, rfl, csrep_lrep y2 5⟩
    · cases hs
theorem trodAll_sh {n base : Nat} : ∀ {ts : List TypeId} {F : Sh} {vs : List Value} {ds : List (DataW H)} {ps : List MemPlace}, shL P n ts F = true → (∀ (j : Nat) t v, ts[j]? = some t → vs[j]? = some v → Value.okWide P w .any base t v) → DataW.TrodAll enc P w 0 sp true ts vs ds ps →
    ∃ y : F.T, F.ok y ∧ vs.length = (F.pvs y).length ∧ ∀ (i : Nat) c, (F.pvs y)[i]? = some c → ∃ u, vs[i]? = some u ∧ VRep (G0 (Zw w)) [] w D u c
  | [], F, vs, ds, ps, h, _, ha => by
    cases F <;> simp only [shL] at h <;> first | contradiction | skip
    obtain ⟨rfl, rfl, rfl⟩ := trodAll_nil ha
    exact ⟨(), trivial, rfl, by simp [Sh.pvs]⟩
  | t :: ts, F, vs, ds, ps, h, hok, ha => by
    cases F <;> simp only [shL] at h <;> first | contradiction | skip
    rename_i a r
    simp only [Bool.and_eq_true] at h
    obtain ⟨v, vs', d, ds', p, q, rfl, rfl, rfl, h1, h2⟩ := trodAll_cons ha
    obtain ⟨y1, o1, c1⟩ := arg_sh h.1 (hok 0 t v rfl rfl) h1
    obtain ⟨y2, o2, c2, c3⟩ := trodAll_sh h.2 (fun j t v a b => hok (j + 1) t v (by simpa using a) (by simpa using b)) h2
    refine ⟨(y1, y2), ⟨o1, o2⟩, by simp [Sh.pvs, c2], fun i c hc => ?_⟩
    cases i with
    | zero => simp [Sh.pvs] at hc; subst hc; exact ⟨v, rfl, c1⟩
    | succ i => simp [Sh.pvs] at hc; simpa using c3 i c hc
theorem trodAll_below {w' : World} (hl : laidOutB P = true) (hb : Below w.heap.size w w') : ∀ {ts : List TypeId} {vs : List Value} {ds : List (DataW H)} {ps : List MemPlace}, ts.all (fun t => P.readableRec t && decide (t < P.types.size)) = true → DataW.TrodAll enc P w 0 (fun _ => true) true ts vs ds ps → DataW.TrodAll enc P w' 0 (fun b => decide (b < w.heap.size)) true ts vs ds ps
  | [], vs, ds, ps, _, ha => by
    obtain ⟨rfl, rfl, rfl⟩ := trodAll_nil ha
    rfl
  | t :: ts, vs, ds, ps, h, ha => by
    obtain ⟨v, vs', d, ds', p, q, rfl, rfl, rfl, h1, h2⟩ := trodAll_cons ha
    simp only [List.all_cons, Bool.and_eq_true, decide_eq_true_eq] at h
    have hlt : ∀ x ∈ p, x.block < w.heap.size := by obtain ⟨m, hm⟩ := h1; exact DataW.trod_lt m _ _ _ hm
    exact trodAll_cons_mk (Below.trod hl h.1.1 h.1.2 h1 hb hlt) (trodAll_below hl hb h.2 h2)
end
theorem trodAll_len {H : Type} {enc : TypeId × Value → H} {P : Program} {w : World} {base : Nat} {sp : Nat → Bool} {held : Bool} : ∀ {ts : List TypeId} {vs : List Value} {ds : List (DataW H)} {ps : List MemPlace}, DataW.TrodAll enc P w base sp held ts vs ds ps → ds.length = ts.length
  | [], vs, ds, ps, ha => by obtain ⟨rfl, rfl, rfl⟩ := trodAll_nil ha; rfl
  | t :: ts, vs, ds, ps, ha => by
    obtain ⟨v, vs', d, ds', p, q, rfl, rfl, rfl, h1, h2⟩ := trodAll_cons ha
    simp [trodAll_len h2]
/-- A LAW'S STATEMENT: its function gives true for all values of the arguments' shapes -/
theorem law_lift {C : Checked} {os : Os} {f : FuncId} {fn : Func} {s : ChangeSpec} {F : Sh} {n : Nat} {rt : TypeId} {conds : List PathCond} {apart : Bool} {H : Type} {enc : TypeId × Value → H}
    (own : ownKnob C.prog.godebug = none) (started : os.Started) (laid : laidOutB C.prog = true) (noInit : C.prog.inits.idxOf? f = none) (hfn : C.prog.funcs[f]? = some fn)
    (witness : ∃ (w : World) (tape : Tape) (i : Input), w.os = os ∧ (w.forCall tape i).Shaped C.prog ∧ i.vars = [] ∧ Input.okWide C.prog (w.forCall tape i) .any w.heap.size f i ∧
      s.pre6 enc C.prog fn conds apart (w.forCall tape i).memory i.args ∧ Assume.holds {} C.prog (lone (Frame.enter C.prog f i.args .normal) [] (w.forCall tape i)))
    (hsh : shL C.prog n fn.params.toList F = true) (hread : fn.params.toList.all (fun t => C.prog.readableRec t && decide (t < C.prog.types.size)) = true)
    (hrt : fn.resultTypes = #[rt]) (hb : C.prog.underlying rt = some .bool) (hv : s.vars = [])
    (hspec : ∀ ds : List (DataW H), ds.length = fn.params.toList.length → s.fn H (ds ++ []) = { results := [.lit (.bool true)], args := ds })
    (hF : ∀ y : F.T, F.ok y → Fn C.prog f [0] (F.pvs y) (.bool true)) :
    ReturnsInHanded {} C os f .any (s.pre6 enc C.prog fn conds apart) (s.post enc C.prog fn apart true false false) := by
  refine returnsInHanded_of_change own started noInit hfn witness ?_
  intro W base args ds gs before hval hW _ _
  have hW' := hW
  obtain ⟨p, q, hA, hV, rfl, _, _⟩ := hW
  rw [hv] at hV
  obtain ⟨rfl, rfl⟩ := trodVars_none hV
  obtain ⟨y, y1, y2, y3⟩ := trodAll_sh (P := C.prog) (w := W) (base := base) hsh (fun j t v a b => hval j t v (by simpa using a) (by simpa using b)) hA
  refine ((hF y y1).2 W (Zw W) args (fun _ h => h) ⟨by simpa using y2, fun i c hc => ?_⟩).mono fun e W' hh => ?_
  · obtain ⟨u, u1, u2⟩ := y3 i c hc
    exact ⟨u, by simpa using u1, u2⟩
  · obtain ⟨v, G, rfl, bel, _, hrep⟩ := hh
    have hvb : v = .bool true := by
      unfold D at hrep
      simpa [thV, thComp, thC, VRep] using hrep
    subst hvb
    have hs := hspec ds (trodAll_len hA)
    refine ⟨_, rfl, ds, [], _, [], p, [], hW', ?_, ?_, ?_, bel.bl.frame _, fun h => by cases h⟩
    · rw [hs, hrt]; exact trodAll_mk1 ⟨1, by simp [DataW.trod, hb, Value.cells]⟩
    · rw [hs]; exact trodAll_below laid bel.bl hread hA
    · rw [hs, hv]; rfl
end Go.Proofs.Ytgdcogoacnghkaa.Am
/-
  Rules for running by simp. Xr, Xw: the machine, closed to the kernel, so that a run is checked step by step; nothing that is not yet reached is looked into. It stands at a loop, at a call, at a test that is not decided.
-/
namespace Go.Proofs.Ytgdcogoacnghkaa.Am
set_option linter.unusedSimpArgs false
set_option linter.unusedVariables false
set_option linter.unusedSectionVars false
theorem xr_ex : ∃ f : FNs → List XOper → XSt → (XSt → Prop) → Prop, f = xrun := ⟨_, rfl⟩
noncomputable def Xr := Classical.choose xr_ex
theorem Xr_eq : Xr = xrun := Classical.choose_spec xr_ex
theorem xw_ex : ∃ f : FNs → XCode → XPost → List PV → Heap → Prop, f = xwp := ⟨_, rfl⟩
noncomputable def Xw := Classical.choose xw_ex
theorem Xw_eq : Xw = xwp := Classical.choose_spec xw_ex
theorem n_beq {a b : Int} : (a == b) = decide (a = b) := by by_cases h : a = b <;> simp [h]
theorem n_bne {a b : Int} : (a != b) = !decide (a = b) := by by_cases h : a = b <;> simp [h]
theorem n_cast {a b : Nat} : ((a : Int) = (b : Int)) = (a = b) := by apply propext; omega
theorem n_neg {a : Nat} : ((a : Int) < 0) = False := by apply propext; exact ⟨fun h => by omega, fun h => h.elim⟩
/-- what follows a region -/
def KN (Q : XPost) (st : XSt) : Prop := Q .normal st.vars st.heap
/-- the operation's outcome -/
def Xo (FN : FNs) (o : Option Eff) (var : Option Nat) (xs : List XOper) (st : XSt) (Q : XSt → Prop) : Prop := match o with
  | some (p, ws) => Xr FN xs ⟨st.loc ++ [p], setO st.vars var p, upd st.heap ws⟩ Q
  | none => False
/-- a call -/
def Xc (FN : FNs) (f : FuncId) (szs : List Nat) (args : List PV) (own : Bool) (ks : List (Nat × Nat)) (hide : List Nat) (var : Option Nat) (xs : List XOper) (st : XSt) (Q : XSt → Prop) : Prop :=
  ∃ r, FN.fn f szs args r ∧ callOk st.heap.length ks own r = true ∧
    Xr FN xs ⟨st.loc ++ [thV (ksF ks) (genF (lkOf st.heap hide)) r], setO st.vars var (thV (ksF ks) (genF (lkOf st.heap hide)) r), upd st.heap (thWs (ksF ks) (genF (lkOf st.heap hide)) 0 (rcells r))⟩ Q
/-- a call of a function value -/
def Xv (FN : FNs) (f : PV) (args : List PV) (var : Option Nat) (xs : List XOper) (st : XSt) (Q : XSt → Prop) : Prop :=
  ∃ r ws, FN.fi f args st.heap r ws ∧ Xr FN xs ⟨st.loc ++ [r], setO st.vars var r, upd st.heap ws⟩ Q
/-- a call of a value that may be a loop's body -/
def Xy (FN : FNs) (f : PV) (args : List PV) (var : Option Nat) (xs : List XOper) (st : XSt) (Q : XSt → Prop) : Prop :=
  FN.fy f args st.vars st.heap fun r vs h => h.length = st.heap.length ∧ Xr FN xs ⟨st.loc ++ [r], setO vs var r, h⟩ Q
/-- what a round of a loop over a function does -/
def loopY (FN : FNs) (ps : List (Option Nat)) (a b : XCode) (vs : List PV) : YT := fun args h1 k => args.length = ps.length ∧ Xw FN a (xasg fun vs2 h2 => Xw FN b (fun e _ h3 => k (pend e) h3) vs2 h2) (setPs vs ps args) h1
/-- a loop over a function -/
def Xi (FN : FNs) (v : PV) (ps : List (Option Nat)) (a b : XCode) (Q : XPost) (vs : List PV) (h : Heap) : Prop :=
  FN.it v (loopY FN ps a b vs) h fun p h' => Q (unp p) vs h'
def Xe (FN : FNs) (op : XOp) (var : Option Nat) (hide : List Nat) (xs : List XOper) (st : XSt) (Q : XSt → Prop) : Prop := match op with
  | .call f args ks _ => Xc FN f (ks.map (·.2)) (args.map fun a => fzV (lkOf st.heap hide) (evO st.loc st.vars a)) ((args.map (evO st.loc st.vars)).any (hasOwn (lkOf st.heap hide))) ks hide var xs st Q
  | .callv f args => Xv FN (evO st.loc st.vars f) (args.map (evO st.loc st.vars)) var xs st Q
  | .cally f args => Xy FN (evO st.loc st.vars f) (args.map (evO st.loc st.vars)) var xs st Q
  | op => Xo FN (aop (evO st.loc st.vars) (lkOf st.heap hide) op) var xs st Q
def Xg (FN : FNs) (g : Option Bool) (op : XOp) (var : Option Nat) (hide : List Nat) (xs : List XOper) (st : XSt) (Q : XSt → Prop) : Prop := match g with
  | none => False
  | some false => Xr FN xs ⟨st.loc ++ [.tup []], setO st.vars var (.tup []), st.heap⟩ Q
  | some true => Xe FN op var hide xs st Q
section
variable {FN : FNs} {Q : XPost} {vs : List PV} {h : Heap}
theorem r_nil {l : List PV} : Xr FN [] ⟨l, vs, h⟩ (KN Q) = Q .normal vs h := by rw [Xr_eq]; rfl
theorem r_cons {op : XOp} {var : Option Nat} {g : Option (Opd × Bool)} {hide : List Nat} {xs : List XOper} {l : List PV} {K : XSt → Prop} : Xr FN (⟨op, var, g, hide⟩ :: xs) ⟨l, vs, h⟩ K = Xg FN (gdO l vs g) op var hide xs ⟨l, vs, h⟩ K := by
  rw [Xr_eq]
  unfold Xg
  cases hg : gdO l vs g with
  | none => simp [xrun, hg]
  | some b =>
    cases b with
    | false => rw [Xr_eq]; simp [xrun, hg]
    | true =>
      unfold Xe
      cases op <;> simp only [xrun, hg, Xc, Xo, Xv, Xy, Xr_eq] <;> first | rfl | skip
theorem g_f {op : XOp} {var : Option Nat} {hide : List Nat} {xs : List XOper} {l : List PV} {K : XSt → Prop} : Xg FN (some false) op var hide xs ⟨l, vs, h⟩ K = Xr FN xs ⟨l ++ [.tup []], setO vs var (.tup []), h⟩ K := rfl
theorem g_t {op : XOp} {var : Option Nat} {hide : List Nat} {xs : List XOper} {st : XSt} {K : XSt → Prop} : Xg FN (some true) op var hide xs st K = Xe FN op var hide xs st K := rfl
theorem e_mv {x} {var : Option Nat} {hide : List Nat} {xs : List XOper} {l : List PV} {K : XSt → Prop} : Xe FN (.mv x) var hide xs ⟨l, vs, h⟩ K = Xo FN (aop (evO l vs) (lkOf h hide) (.mv x)) var xs ⟨l, vs, h⟩ K := rfl
theorem e_pick {c a b} {var : Option Nat} {hide : List Nat} {xs : List XOper} {l : List PV} {K : XSt → Prop} : Xe FN (.pick c a b) var hide xs ⟨l, vs, h⟩ K = Xo FN (aop (evO l vs) (lkOf h hide) (.pick c a b)) var xs ⟨l, vs, h⟩ K := rfl
theorem e_alloc {k zs} {var : Option Nat} {hide : List Nat} {xs : List XOper} {l : List PV} {K : XSt → Prop} : Xe FN (.alloc k zs) var hide xs ⟨l, vs, h⟩ K = Xo FN (aop (evO l vs) (lkOf h hide) (.alloc k zs)) var xs ⟨l, vs, h⟩ K := rfl
theorem e_box {k x} {var : Option Nat} {hide : List Nat} {xs : List XOper} {l : List PV} {K : XSt → Prop} : Xe FN (.box k x) var hide xs ⟨l, vs, h⟩ K = Xo FN (aop (evO l vs) (lkOf h hide) (.box k x)) var xs ⟨l, vs, h⟩ K := rfl
theorem e_build {zs parts} {var : Option Nat} {hide : List Nat} {xs : List XOper} {l : List PV} {K : XSt → Prop} : Xe FN (.build zs parts) var hide xs ⟨l, vs, h⟩ K = Xo FN (aop (evO l vs) (lkOf h hide) (.build zs parts)) var xs ⟨l, vs, h⟩ K := rfl
theorem e_mkarr {k sz zs parts} {var : Option Nat} {hide : List Nat} {xs : List XOper} {l : List PV} {K : XSt → Prop} : Xe FN (.mkarr k sz zs parts) var hide xs ⟨l, vs, h⟩ K = Xo FN (aop (evO l vs) (lkOf h hide) (.mkarr k sz zs parts)) var xs ⟨l, vs, h⟩ K := rfl
theorem e_lit {sz zs parts} {var : Option Nat} {hide : List Nat} {xs : List XOper} {l : List PV} {K : XSt → Prop} : Xe FN (.lit sz zs parts) var hide xs ⟨l, vs, h⟩ K = Xo FN (aop (evO l vs) (lkOf h hide) (.lit sz zs parts)) var xs ⟨l, vs, h⟩ K := rfl
theorem e_load {agg sz a} {var : Option Nat} {hide : List Nat} {xs : List XOper} {l : List PV} {K : XSt → Prop} : Xe FN (.load agg sz a) var hide xs ⟨l, vs, h⟩ K = Xo FN (aop (evO l vs) (lkOf h hide) (.load agg sz a)) var xs ⟨l, vs, h⟩ K := rfl
theorem e_loadV {agg sz a} {var : Option Nat} {hide : List Nat} {xs : List XOper} {l : List PV} {K : XSt → Prop} : Xe FN (.loadV agg sz a) var hide xs ⟨l, vs, h⟩ K = Xo FN (aop (evO l vs) (lkOf h hide) (.loadV agg sz a)) var xs ⟨l, vs, h⟩ K := rfl
theorem e_store {sz a v} {var : Option Nat} {hide : List Nat} {xs : List XOper} {l : List PV} {K : XSt → Prop} : Xe FN (.store sz a v) var hide xs ⟨l, vs, h⟩ K = Xo FN (aop (evO l vs) (lkOf h hide) (.store sz a v)) var xs ⟨l, vs, h⟩ K := rfl
theorem e_nilchk {x} {var : Option Nat} {hide : List Nat} {xs : List XOper} {l : List PV} {K : XSt → Prop} : Xe FN (.nilchk x) var hide xs ⟨l, vs, h⟩ K = Xo FN (aop (evO l vs) (lkOf h hide) (.nilchk x)) var xs ⟨l, vs, h⟩ K := rfl
theorem e_bin {op bt x y} {var : Option Nat} {hide : List Nat} {xs : List XOper} {l : List PV} {K : XSt → Prop} : Xe FN (.bin op bt x y) var hide xs ⟨l, vs, h⟩ K = Xo FN (aop (evO l vs) (lkOf h hide) (.bin op bt x y)) var xs ⟨l, vs, h⟩ K := rfl
theorem e_un {op x} {var : Option Nat} {hide : List Nat} {xs : List XOper} {l : List PV} {K : XSt → Prop} : Xe FN (.un op x) var hide xs ⟨l, vs, h⟩ K = Xo FN (aop (evO l vs) (lkOf h hide) (.un op x)) var xs ⟨l, vs, h⟩ K := rfl
theorem e_conv {k x} {var : Option Nat} {hide : List Nat} {xs : List XOper} {l : List PV} {K : XSt → Prop} : Xe FN (.conv k x) var hide xs ⟨l, vs, h⟩ K = Xo FN (aop (evO l vs) (lkOf h hide) (.conv k x)) var xs ⟨l, vs, h⟩ K := rfl
theorem e_convId {x} {var : Option Nat} {hide : List Nat} {xs : List XOper} {l : List PV} {K : XSt → Prop} : Xe FN (.convId x) var hide xs ⟨l, vs, h⟩ K = Xo FN (aop (evO l vs) (lkOf h hide) (.convId x)) var xs ⟨l, vs, h⟩ K := rfl
theorem e_convStr {x} {var : Option Nat} {hide : List Nat} {xs : List XOper} {l : List PV} {K : XSt → Prop} : Xe FN (.convStr x) var hide xs ⟨l, vs, h⟩ K = Xo FN (aop (evO l vs) (lkOf h hide) (.convStr x)) var xs ⟨l, vs, h⟩ K := rfl
theorem e_makeSlice {k sz bytes z len cap} {var : Option Nat} {hide : List Nat} {xs : List XOper} {l : List PV} {K : XSt → Prop} : Xe FN (.makeSlice k sz bytes z len cap) var hide xs ⟨l, vs, h⟩ K = Xo FN (aop (evO l vs) (lkOf h hide) (.makeSlice k sz bytes z len cap)) var xs ⟨l, vs, h⟩ K := rfl
theorem e_slice {st sz x lo hi mx} {var : Option Nat} {hide : List Nat} {xs : List XOper} {l : List PV} {K : XSt → Prop} : Xe FN (.slice st sz x lo hi mx) var hide xs ⟨l, vs, h⟩ K = Xo FN (aop (evO l vs) (lkOf h hide) (.slice st sz x lo hi mx)) var xs ⟨l, vs, h⟩ K := rfl
theorem e_fieldAddr {off x} {var : Option Nat} {hide : List Nat} {xs : List XOper} {l : List PV} {K : XSt → Prop} : Xe FN (.fieldAddr off x) var hide xs ⟨l, vs, h⟩ K = Xo FN (aop (evO l vs) (lkOf h hide) (.fieldAddr off x)) var xs ⟨l, vs, h⟩ K := rfl
theorem e_field {agg off sz x} {var : Option Nat} {hide : List Nat} {xs : List XOper} {l : List PV} {K : XSt → Prop} : Xe FN (.field agg off sz x) var hide xs ⟨l, vs, h⟩ K = Xo FN (aop (evO l vs) (lkOf h hide) (.field agg off sz x)) var xs ⟨l, vs, h⟩ K := rfl
theorem e_indexAddr {sz x i} {var : Option Nat} {hide : List Nat} {xs : List XOper} {l : List PV} {K : XSt → Prop} : Xe FN (.indexAddr sz x i) var hide xs ⟨l, vs, h⟩ K = Xo FN (aop (evO l vs) (lkOf h hide) (.indexAddr sz x i)) var xs ⟨l, vs, h⟩ K := rfl
theorem e_indexAddrA {n sz x i} {var : Option Nat} {hide : List Nat} {xs : List XOper} {l : List PV} {K : XSt → Prop} : Xe FN (.indexAddrA n sz x i) var hide xs ⟨l, vs, h⟩ K = Xo FN (aop (evO l vs) (lkOf h hide) (.indexAddrA n sz x i)) var xs ⟨l, vs, h⟩ K := rfl
theorem e_indexA {agg n sz x i} {var : Option Nat} {hide : List Nat} {xs : List XOper} {l : List PV} {K : XSt → Prop} : Xe FN (.indexA agg n sz x i) var hide xs ⟨l, vs, h⟩ K = Xo FN (aop (evO l vs) (lkOf h hide) (.indexA agg n sz x i)) var xs ⟨l, vs, h⟩ K := rfl
theorem e_indexS {x i} {var : Option Nat} {hide : List Nat} {xs : List XOper} {l : List PV} {K : XSt → Prop} : Xe FN (.indexS x i) var hide xs ⟨l, vs, h⟩ K = Xo FN (aop (evO l vs) (lkOf h hide) (.indexS x i)) var xs ⟨l, vs, h⟩ K := rfl
theorem e_extract {x i} {var : Option Nat} {hide : List Nat} {xs : List XOper} {l : List PV} {K : XSt → Prop} : Xe FN (.extract x i) var hide xs ⟨l, vs, h⟩ K = Xo FN (aop (evO l vs) (lkOf h hide) (.extract x i)) var xs ⟨l, vs, h⟩ K := rfl
theorem e_cally {f args} {var : Option Nat} {hide : List Nat} {xs : List XOper} {l : List PV} {K : XSt → Prop} : Xe FN (.cally f args) var hide xs ⟨l, vs, h⟩ K = Xy FN (evO l vs f) (args.map (evO l vs)) var xs ⟨l, vs, h⟩ K := rfl
theorem e_stuck {var : Option Nat} {hide : List Nat} {xs : List XOper} {l : List PV} {K : XSt → Prop} : Xe FN .stuck var hide xs ⟨l, vs, h⟩ K = False := rfl
theorem e_callv {f args} {var : Option Nat} {hide : List Nat} {xs : List XOper} {l : List PV} {K : XSt → Prop} : Xe FN (.callv f args) var hide xs ⟨l, vs, h⟩ K = Xv FN (evO l vs f) (args.map (evO l vs)) var xs ⟨l, vs, h⟩ K := rfl
theorem e_len {st x} {var : Option Nat} {hide : List Nat} {xs : List XOper} {l : List PV} {K : XSt → Prop} : Xe FN (.len st x) var hide xs ⟨l, vs, h⟩ K = Xo FN (aop (evO l vs) (lkOf h hide) (.len st x)) var xs ⟨l, vs, h⟩ K := rfl
theorem e_lenK {n} {var : Option Nat} {hide : List Nat} {xs : List XOper} {l : List PV} {K : XSt → Prop} : Xe FN (.lenK n) var hide xs ⟨l, vs, h⟩ K = Xo FN (aop (evO l vs) (lkOf h hide) (.lenK n)) var xs ⟨l, vs, h⟩ K := rfl
theorem e_minmax {mx ys} {var : Option Nat} {hide : List Nat} {xs : List XOper} {l : List PV} {K : XSt → Prop} : Xe FN (.minmax mx ys) var hide xs ⟨l, vs, h⟩ K = Xo FN (aop (evO l vs) (lkOf h hide) (.minmax mx ys)) var xs ⟨l, vs, h⟩ K := rfl
theorem e_appendF {k sz bytes s x} {var : Option Nat} {hide : List Nat} {xs : List XOper} {l : List PV} {K : XSt → Prop} : Xe FN (.appendF k sz bytes s x) var hide xs ⟨l, vs, h⟩ K = Xo FN (aop (evO l vs) (lkOf h hide) (.appendF k sz bytes s x)) var xs ⟨l, vs, h⟩ K := rfl
theorem e_append {k sz bytes mode s x} {var : Option Nat} {hide : List Nat} {xs : List XOper} {l : List PV} {K : XSt → Prop} : Xe FN (.append k sz bytes mode s x) var hide xs ⟨l, vs, h⟩ K = Xo FN (aop (evO l vs) (lkOf h hide) (.append k sz bytes mode s x)) var xs ⟨l, vs, h⟩ K := rfl
theorem e_copy {sz d s} {var : Option Nat} {hide : List Nat} {xs : List XOper} {l : List PV} {K : XSt → Prop} : Xe FN (.copy sz d s) var hide xs ⟨l, vs, h⟩ K = Xo FN (aop (evO l vs) (lkOf h hide) (.copy sz d s)) var xs ⟨l, vs, h⟩ K := rfl
theorem e_mkfn {f first captured} {var : Option Nat} {hide : List Nat} {xs : List XOper} {l : List PV} {K : XSt → Prop} : Xe FN (.mkfn f first captured) var hide xs ⟨l, vs, h⟩ K = Xo FN (aop (evO l vs) (lkOf h hide) (.mkfn f first captured)) var xs ⟨l, vs, h⟩ K := rfl
theorem e_allocA {k zs} {var : Option Nat} {hide : List Nat} {xs : List XOper} {l : List PV} {K : XSt → Prop} : Xe FN (.allocA k zs) var hide xs ⟨l, vs, h⟩ K = Xo FN (aop (evO l vs) (lkOf h hide) (.allocA k zs)) var xs ⟨l, vs, h⟩ K := rfl
theorem e_boxA {k x} {var : Option Nat} {hide : List Nat} {xs : List XOper} {l : List PV} {K : XSt → Prop} : Xe FN (.boxA k x) var hide xs ⟨l, vs, h⟩ K = Xo FN (aop (evO l vs) (lkOf h hide) (.boxA k x)) var xs ⟨l, vs, h⟩ K := rfl
theorem e_loadA {n a} {var : Option Nat} {hide : List Nat} {xs : List XOper} {l : List PV} {K : XSt → Prop} : Xe FN (.loadA n a) var hide xs ⟨l, vs, h⟩ K = Xo FN (aop (evO l vs) (lkOf h hide) (.loadA n a)) var xs ⟨l, vs, h⟩ K := rfl
theorem e_storeA {n a v} {var : Option Nat} {hide : List Nat} {xs : List XOper} {l : List PV} {K : XSt → Prop} : Xe FN (.storeA n a v) var hide xs ⟨l, vs, h⟩ K = Xo FN (aop (evO l vs) (lkOf h hide) (.storeA n a v)) var xs ⟨l, vs, h⟩ K := rfl
theorem e_sliceA {n x lo hi} {var : Option Nat} {hide : List Nat} {xs : List XOper} {l : List PV} {K : XSt → Prop} : Xe FN (.sliceA n x lo hi) var hide xs ⟨l, vs, h⟩ K = Xo FN (aop (evO l vs) (lkOf h hide) (.sliceA n x lo hi)) var xs ⟨l, vs, h⟩ K := rfl
theorem e_eqS {neg ts x y} {var : Option Nat} {hide : List Nat} {xs : List XOper} {l : List PV} {K : XSt → Prop} : Xe FN (.eqS neg ts x y) var hide xs ⟨l, vs, h⟩ K = Xo FN (aop (evO l vs) (lkOf h hide) (.eqS neg ts x y)) var xs ⟨l, vs, h⟩ K := rfl
theorem e_eqNil {neg x y} {var : Option Nat} {hide : List Nat} {xs : List XOper} {l : List PV} {K : XSt → Prop} : Xe FN (.eqNil neg x y) var hide xs ⟨l, vs, h⟩ K = Xo FN (aop (evO l vs) (lkOf h hide) (.eqNil neg x y)) var xs ⟨l, vs, h⟩ K := rfl
theorem e_makeMap {k} {var : Option Nat} {hide : List Nat} {xs : List XOper} {l : List PV} {K : XSt → Prop} : Xe FN (.makeMap k) var hide xs ⟨l, vs, h⟩ K = Xo FN (aop (evO l vs) (lkOf h hide) (.makeMap k)) var xs ⟨l, vs, h⟩ K := rfl
theorem e_mapUpd {kt m x v} {var : Option Nat} {hide : List Nat} {xs : List XOper} {l : List PV} {K : XSt → Prop} : Xe FN (.mapUpd kt m x v) var hide xs ⟨l, vs, h⟩ K = Xo FN (aop (evO l vs) (lkOf h hide) (.mapUpd kt m x v)) var xs ⟨l, vs, h⟩ K := rfl
theorem e_lookup {kt ok z m x} {var : Option Nat} {hide : List Nat} {xs : List XOper} {l : List PV} {K : XSt → Prop} : Xe FN (.lookup kt ok z m x) var hide xs ⟨l, vs, h⟩ K = Xo FN (aop (evO l vs) (lkOf h hide) (.lookup kt ok z m x)) var xs ⟨l, vs, h⟩ K := rfl
theorem e_lookupT {k kt sz z m x} {var : Option Nat} {hide : List Nat} {xs : List XOper} {l : List PV} {K : XSt → Prop} : Xe FN (.lookupT k kt sz z m x) var hide xs ⟨l, vs, h⟩ K = Xo FN (aop (evO l vs) (lkOf h hide) (.lookupT k kt sz z m x)) var xs ⟨l, vs, h⟩ K := rfl
theorem e_mapEntry {k kt sz z m x} {var : Option Nat} {hide : List Nat} {xs : List XOper} {l : List PV} {K : XSt → Prop} : Xe FN (.mapEntry k kt sz z m x) var hide xs ⟨l, vs, h⟩ K = Xo FN (aop (evO l vs) (lkOf h hide) (.mapEntry k kt sz z m x)) var xs ⟨l, vs, h⟩ K := rfl
theorem e_entryStore {m i v} {var : Option Nat} {hide : List Nat} {xs : List XOper} {l : List PV} {K : XSt → Prop} : Xe FN (.entryStore m i v) var hide xs ⟨l, vs, h⟩ K = Xo FN (aop (evO l vs) (lkOf h hide) (.entryStore m i v)) var xs ⟨l, vs, h⟩ K := rfl
theorem e_call {f : FuncId} {args : List Opd} {ks : List (Nat × Nat)} {al : Bool} {var : Option Nat} {hide : List Nat} {xs : List XOper} {l : List PV} {K : XSt → Prop} : Xe FN (.call f args ks al) var hide xs ⟨l, vs, h⟩ K =
  Xc FN f (ks.map (·.2)) (args.map fun a => fzV (lkOf h hide) (evO l vs a)) ((args.map (evO l vs)).any (hasOwn (lkOf h hide))) ks hide var xs ⟨l, vs, h⟩ K := rfl
theorem o_some {p : PV} {ws : List (Nat × Row)} {var : Option Nat} {xs : List XOper} {l : List PV} {K : XSt → Prop} : Xo FN (some (p, ws)) var xs ⟨l, vs, h⟩ K = Xr FN xs ⟨l ++ [p], setO vs var p, upd h ws⟩ K := rfl
theorem o_none {var : Option Nat} {xs : List XOper} {st : XSt} {K : XSt → Prop} : Xo FN none var xs st K = False := rfl
/-- A CALL of a function value -/
theorem callv_of {f : PV} {args : List PV} {var : Option Nat} {xs : List XOper} {l : List PV} {K : XSt → Prop} {r : PV} {ws : List (Nat × Row)} (hf : FN.fi f args h r ws)
    (hk : Xr FN xs ⟨l ++ [r], setO vs var r, upd h ws⟩ K) : Xv FN f args var xs ⟨l, vs, h⟩ K := ⟨r, ws, hf, hk⟩
/-- A CALL, by what its function gives -/
theorem call_of {f : FuncId} {szs : List Nat} {args : List PV} {own : Bool} {ks : List (Nat × Nat)} {hide : List Nat} {var : Option Nat} {xs : List XOper} {l : List PV} {K : XSt → Prop} {r : PV} (hf : FN.fn f szs args r)
    (hk : callOk h.length ks own r = true ∧ Xr FN xs ⟨l ++ [thV (ksF ks) (genF (lkOf h hide)) r], setO vs var (thV (ksF ks) (genF (lkOf h hide)) r), upd h (thWs (ksF ks) (genF (lkOf h hide)) 0 (rcells r))⟩ K) :
    Xc FN f szs args own ks hide var xs ⟨l, vs, h⟩ K := ⟨r, hf, hk⟩
theorem r_skip : Xw FN .skip Q vs h = Q .normal vs h := by rw [Xw_eq]; rfl
theorem r_reg {xs : List XOper} : Xw FN (.reg xs) Q vs h = (sitesIn h.length xs = true ∧ Xr FN xs ⟨[], vs, h⟩ (KN Q)) := by rw [Xw_eq, Xr_eq]; rfl
theorem r_seq {a b : XCode} : Xw FN (.seq a b) Q vs h = Xw FN a (xthen (Xw FN b Q) Q) vs h := by rw [Xw_eq]; rfl
theorem r_condT {c : Opd} {a b : XCode} (hc : evO [] vs c = .bool true) : Xw FN (.cond c a b) Q vs h = Xw FN a Q vs h := by
  rw [Xw_eq]; simp only [xwp, hc]
theorem r_condF {c : Opd} {a b : XCode} (hc : evO [] vs c = .bool false) : Xw FN (.cond c a b) Q vs h = Xw FN b Q vs h := by
  rw [Xw_eq]; simp only [xwp, hc]
/-- a test that is not decided -/
theorem cond_of {c : Opd} {a b : XCode} {t : Bool} (hc : evO [] vs c = .bool t) (h1 : t = true → Xw FN a Q vs h) (h2 : t = false → Xw FN b Q vs h) : Xw FN (.cond c a b) Q vs h := by
  cases t
  · rw [r_condF hc]; exact h2 rfl
  · rw [r_condT hc]; exact h1 rfl
theorem r_block {id : Nat} {b : XCode} : Xw FN (.block id b) Q vs h = Xw FN b (xin id Q) vs h := by rw [Xw_eq]; rfl
theorem r_frz {l : List (Nat × Bool)} {b : XCode} : Xw FN (.frz l b) Q vs h = Xw FN b Q vs (frzH l h) := by rw [Xw_eq]; rfl
theorem r_rfor {g : Opd} {ps : List (Option Nat)} {a b : XCode} : Xw FN (.rfor g ps a b) Q vs h = Xi FN (evO [] vs g) ps a b Q vs h := by unfold Xi loopY; rw [Xw_eq]; rfl
theorem x_normal {K : List PV → Heap → Prop} : xasg K .normal vs h = K vs h := rfl
theorem r_mat {v : Nat} {c : Option Nat} {k sz : Nat} {b : XCode} : Xw FN (.mat v c k sz b) Q vs h = Xw FN b Q (matP v c k sz vs h).1 (matP v c k sz vs h).2 := by rw [Xw_eq]; rfl
theorem r_exit {id : Nat} : Xw FN (.exit id) Q vs h = Q (.exit id) vs h := by rw [Xw_eq]; rfl
theorem r_ret : Xw FN .ret Q vs h = Q .ret vs h := by rw [Xw_eq]; rfl
theorem t_normal {K : List PV → Heap → Prop} : xthen K Q .normal vs h = K vs h := rfl
theorem t_exit {K : List PV → Heap → Prop} {id : Nat} : xthen K Q (.exit id) vs h = Q (.exit id) vs h := rfl
theorem t_ret {K : List PV → Heap → Prop} : xthen K Q .ret vs h = Q .ret vs h := rfl
theorem i_normal {id : Nat} : xin id Q .normal vs h = Q .normal vs h := rfl
theorem i_exit {id i : Nat} : xin id Q (.exit i) vs h = if i = id then Q .normal vs h else Q (.exit i) vs h := rfl
theorem i_ret {id : Nat} : xin id Q .ret vs h = Q .ret vs h := rfl
/-- A LOOP: a relation on settled states, and a measure; what follows stands as Q' -/
theorem loopX {σ : Type} (I : σ → List PV → Heap → Prop) (μ : σ → Nat) {lv : List Nat} {c0 : Nat} {b : XCode} (s : σ) (hstart : settled lv c0 vs h (I s))
    (hround : ∀ s vs h, I s vs h → ∀ Q' : XPost, (∀ s' vs h, μ s' < μ s → settled lv c0 vs h (I s') → Q' .normal vs h) → (∀ id vs h, Q (.exit id) vs h → Q' (.exit id) vs h) → (∀ vs h, Q .ret vs h → Q' .ret vs h) → Xw FN b Q' vs h) : Xw FN (.loopS lv c0 b) Q vs h := by
  rw [Xw_eq] at hround ⊢
  refine loopS_rule I μ s hstart fun s vs h hI => hround s vs h hI _ (fun s' vs h h1 h2 => ⟨h2.1, s', h2.2, h1⟩) (fun _ _ _ => id) fun _ _ => id
theorem Xw_mono {c : XCode} {Q Q' : XPost} (hq : ∀ e vs h, Q e vs h → Q' e vs h) (hh : Xw FN c Q vs h) : Xw FN c Q' vs h := by
  rw [Xw_eq] at hh ⊢; exact xwp_mono hq hh
end
section
variable {P : Program}
/-- A CALL of a function value that may be a loop's body -/
theorem cally_of {f : PV} {args vs : List PV} {h : Heap} {var : Option Nat} {xs : List XOper} {l : List PV} {K : XSt → Prop} {r : PV} {ws : List (Nat × Row)} (hf : FI P f args h r ws)
    (hk : Xr (fns P) xs ⟨l ++ [r], setO vs var r, upd h ws⟩ K) : Xy (fns P) f args var xs ⟨l, vs, h⟩ K := ⟨r, ws, hf, upd_length _ _, hk⟩
/-- what a body's end gives -/
def fin (rs : List (Nat × Option (Bool × Nat))) (szs : List Nat) (r : PV) (vs : List PV) (h : Heap) : Prop :=
  ∃ l, resVs (lkOf h []) vs rs = some l ∧ nodupN (outIds (oneV l)) = true ∧ szsOk szs 0 ((comps (oneV l)).flatMap ecells) = true ∧ rvV (lkOf h []) (oneV l) = r
theorem fn_introX (hm : P.follows .mixedOrders = true) {f : FuncId} {X : XFn} {s0 : Nat} (hc : compFn P f = some { X with sites := s0, body := strip X.body }) (n : Nat) {szs : List Nat} {args : List PV} {r : PV} (hlen : args.length ≤ X.ntmps)
    (h : ∀ Q : XPost, (∀ vs h, fin X.results szs r vs h → Q .ret vs h) → (∀ vs h, fin X.results szs r vs h → Q .normal vs h) → Xw (fns P) X.body Q (X.vars.map fun s => args.getD s .undef) (List.replicate n (0, .dead))) : Fn P f szs args r :=
  fn_introS hm hc (n := n) hlen (by rw [← Xw_eq]; exact h _ (fun _ _ h => ⟨trivial, h⟩) fun _ _ h => ⟨trivial, h⟩)
end
end Go.Proofs.Ytgdcogoacnghkaa.Am
/-
  A run ends in one state; a function of which only a property is wanted.
-/
namespace Go.Proofs.Ytgdcogoacnghkaa.Am
set_option linter.unusedSimpArgs false
set_option linter.unusedVariables false
set_option linter.unusedSectionVars false
section
variable {P : Program}
theorem xrun_one : ∀ {xs : List XOper} {st : XSt} {Q : XSt → Prop}, xrun (fns P) xs st Q → ∃ st', xrun (fns P) xs st (· = st') ∧ Q st'
  | [], st, Q, h => ⟨st, rfl, h⟩
  | x :: xs, st, Q, h => by
    cases hg : gdO st.loc st.vars x.guard with
    | none => simp only [xrun, hg] at h
    | some c =>
      cases c with
      | false => simp only [xrun, hg] at h ⊢; exact xrun_one h
      | true =>
        cases hx : x.op
        case call f args ks al =>
          simp only [xrun, hg, hx] at h ⊢
          obtain ⟨r, h1, h2, h3⟩ := h
          obtain ⟨st', h4, h5⟩ := xrun_one h3
          exact ⟨st', ⟨r, h1, h2, h4⟩, h5⟩
        case callv f args =>
          simp only [xrun, hg, hx] at h ⊢
          obtain ⟨r, ws, h1, h3⟩ := h
          obtain ⟨st', h4, h5⟩ := xrun_one h3
          exact ⟨st', ⟨r, ws, h1, h4⟩, h5⟩
        case cally f args =>
          simp only [xrun, hg, hx] at h ⊢
          obtain ⟨r, ws, h1, h2, h3⟩ := h
          obtain ⟨st', h4, h5⟩ := xrun_one h3
          exact ⟨st', ⟨r, ws, h1, h2, h4⟩, h5⟩
        all_goals
          simp only [xrun, hg, hx] at h ⊢
          split at h
          · exact xrun_one h
          · exact h.elim
abbrev At (e : XExit) (vs : List PV) (h : Heap) : XPost := fun e' vs' h' => e' = e ∧ vs' = vs ∧ h' = h
theorem xloop_one {body : XPost → List PV → Heap → Prop} (hm : ∀ {Q Q' : XPost}, (∀ e vs h, Q e vs h → Q' e vs h) → ∀ {vs h}, body Q vs h → body Q' vs h) (hb : ∀ {Q : XPost} {vs h}, body Q vs h → ∃ e vs' h', body (At e vs' h') vs h ∧ Q e vs' h') : ∀ {n : Nat} {Q : XPost} {vs : List PV} {h : Heap}, xloop body Q n vs h → ∃ e vs' h', xloop body (At e vs' h') n vs h ∧ Q e vs' h'
  | 0, _, _, _, hh => hh.elim
  | n + 1, Q, vs, h, hh => by
    obtain ⟨e, vs', h', h1, h2⟩ := hb (show body (xthen (xloop body Q n) Q) vs h from hh)
    cases e with
    | normal =>
      obtain ⟨e2, vs2, hp2, h3, h4⟩ := xloop_one hm hb (show xloop body Q n vs' h' from h2)
      refine ⟨e2, vs2, hp2, hm (fun e v p hx => ?_) h1, h4⟩
      obtain ⟨rfl, rfl, rfl⟩ := hx
      exact h3
    | exit id => exact ⟨.exit id, vs', h', hm (fun e v p hx => by obtain ⟨rfl, rfl, rfl⟩ := hx; exact ⟨rfl, rfl, rfl⟩) h1, h2⟩
    | ret => exact ⟨.ret, vs', h', hm (fun e v p hx => by obtain ⟨rfl, rfl, rfl⟩ := hx; exact ⟨rfl, rfl, rfl⟩) h1, h2⟩
/-- is there no loop over a function in it? -/
def noX : XCode → Bool
  | .seq a b | .cond _ a b => noX a && noX b
  | .block _ b | .loop b | .loopS _ _ b | .frz _ b | .mat _ _ _ _ b => noX b
  | .rfor .. => false
  | _ => true
theorem xwp_one : ∀ {c : XCode}, noX c = true → ∀ {Q : XPost} {vs : List PV} {h : Heap}, xwp (fns P) c Q vs h → ∃ e vs' h', xwp (fns P) c (At e vs' h') vs h ∧ Q e vs' h' := by
  intro c
  induction c with
  | skip => intro hnx Q vs h hh; exact ⟨.normal, vs, h, ⟨rfl, rfl, rfl⟩, hh⟩
  | reg xs =>
    intro hnx Q vs h hh
    obtain ⟨st', h1, h2⟩ := xrun_one hh.2
    exact ⟨.normal, st'.vars, st'.heap, ⟨hh.1, xrun_mono (fun st e => by subst e; exact ⟨rfl, rfl, rfl⟩) h1⟩, h2⟩
  | seq a b iha ihb =>
    intro hnx Q vs h hh
    simp only [noX, Bool.and_eq_true] at hnx
    obtain ⟨e, vs', h', h1, h2⟩ := iha hnx.1 (show xwp (fns P) a (xthen (xwp (fns P) b Q) Q) vs h from hh)
    have up : ∀ e2 v2 p2, xthen (xwp (fns P) b (At e2 v2 p2)) (At e2 v2 p2) e vs' h' → xwp (fns P) (.seq a b) (At e2 v2 p2) vs h := fun e2 v2 p2 hq =>
      show xwp (fns P) a (xthen (xwp (fns P) b (At e2 v2 p2)) (At e2 v2 p2)) vs h from xwp_mono (fun e v p hx => by obtain ⟨rfl, rfl, rfl⟩ := hx; exact hq) h1
    cases e with
    | normal =>
      obtain ⟨e2, vs2, hp2, h3, h4⟩ := ihb hnx.2 (show xwp (fns P) b Q vs' h' from h2)
      exact ⟨e2, vs2, hp2, up _ _ _ h3, h4⟩
    | exit id => exact ⟨.exit id, vs', h', up _ _ _ ⟨rfl, rfl, rfl⟩, h2⟩
    | ret => exact ⟨.ret, vs', h', up _ _ _ ⟨rfl, rfl, rfl⟩, h2⟩
  | cond c a b iha ihb =>
    intro hnx Q vs h hh
    simp only [noX, Bool.and_eq_true] at hnx
    simp only [xwp] at hh ⊢
    split at hh
    · exact iha hnx.1 hh
    · exact ihb hnx.2 hh
    · exact hh.elim
  | block id b ih =>
    intro hnx Q vs h hh
    obtain ⟨e, vs', h', h1, h2⟩ := ih hnx (show xwp (fns P) b (xin id Q) vs h from hh)
    have up : ∀ e2 v2 p2, xin id (At e2 v2 p2) e vs' h' → xwp (fns P) (.block id b) (At e2 v2 p2) vs h := fun e2 v2 p2 hq =>
      show xwp (fns P) b (xin id (At e2 v2 p2)) vs h from xwp_mono (fun e v p hx => by obtain ⟨rfl, rfl, rfl⟩ := hx; exact hq) h1
    cases e with
    | normal => exact ⟨.normal, vs', h', up _ _ _ ⟨rfl, rfl, rfl⟩, h2⟩
    | ret => exact ⟨.ret, vs', h', up _ _ _ ⟨rfl, rfl, rfl⟩, h2⟩
    | exit i =>
      simp only [xin] at h2
      split at h2
      · rename_i e
        exact ⟨.normal, vs', h', up _ _ _ (by simp only [xin]; rw [if_pos e]; exact ⟨rfl, rfl, rfl⟩), h2⟩
      · rename_i e
        exact ⟨.exit i, vs', h', up _ _ _ (by simp only [xin]; rw [if_neg e]; exact ⟨rfl, rfl, rfl⟩), h2⟩
  | loop b ih =>
    intro hnx Q vs h hh
    obtain ⟨n, hh⟩ := hh
    obtain ⟨e, vs', h', h1, h2⟩ := xloop_one (body := xwp (fns P) b) (fun hq _ _ hb => xwp_mono hq hb) (fun hb => ih hnx hb) hh
    exact ⟨e, vs', h', ⟨n, h1⟩, h2⟩
  | loopS lv c0 b ih =>
    intro hnx Q vs h hh
    obtain ⟨n, hh⟩ := hh
    obtain ⟨e, vs', h', h1, h2⟩ := xloop_one (body := fun Q vs h => settled lv c0 vs h (xwp (fns P) b Q)) (fun hq _ _ hb => ⟨hb.1, xwp_mono hq hb.2⟩) (fun hb => by
      obtain ⟨e, vs', h', h1, h2⟩ := ih hnx hb.2
      exact ⟨e, vs', h', ⟨hb.1, h1⟩, h2⟩) hh
    exact ⟨e, vs', h', ⟨n, h1⟩, h2⟩
  | frz l b ih =>
    intro hnx Q vs h hh
    exact ih hnx (show xwp (fns P) b Q vs (frzH l h) from hh)
  | mat v c k sz b ih =>
    intro hnx Q vs h hh
    exact ih hnx (show xwp (fns P) b Q (matP v c k sz vs h).1 (matP v c k sz vs h).2 from hh)
  | rfor => intro hnx; simp [noX] at hnx
  | exit id => intro hnx Q vs h hh; exact ⟨.exit id, vs, h, ⟨rfl, rfl, rfl⟩, hh⟩
  | ret => intro hnx Q vs h hh; exact ⟨.ret, vs, h, ⟨rfl, rfl, rfl⟩, hh⟩
end
/-- A FUNCTION of whose result a property is known -/
theorem fn_introE {P : Program} {φ : PV → Prop} (hm : P.follows .mixedOrders = true) {f : FuncId} {X : XFn} {s0 : Nat} (hc : compFn P f = some { X with sites := s0, body := strip X.body }) (n : Nat) {szs : List Nat} {args : List PV} (hlen : args.length ≤ X.ntmps)
    (hnx : noX X.body = true) (h : ∀ Q : XPost, (∀ r vs h, φ r → fin X.results szs r vs h → Q .ret vs h) → (∀ r vs h, φ r → fin X.results szs r vs h → Q .normal vs h) → Xw (fns P) X.body Q (X.vars.map fun s => args.getD s .undef) (List.replicate n (0, .dead))) : ∃ r, φ r ∧ Fn P f szs args r := by
  have hh := h (fun e vs h => ∃ r, φ r ∧ xret X.results szs r e vs h) (fun r vs h h1 h2 => ⟨r, h1, trivial, h2⟩) (fun r vs h h1 h2 => ⟨r, h1, trivial, h2⟩)
  rw [Xw_eq] at hh
  obtain ⟨e, vs', h', h1, r, h2, h3⟩ := xwp_one hnx hh
  exact ⟨r, h2, fn_introS hm hc (n := n) hlen (xwp_mono (fun e v p hx => by obtain ⟨rfl, rfl, rfl⟩ := hx; exact h3) h1)⟩
/-- a loop that is not settled (functions that share the caller's memory) -/
theorem loopR {FN : FNs} {Q : XPost} {vs : List PV} {h : Heap} {σ : Type} (I : σ → List PV → Heap → Prop) (μ : σ → Nat) {b : XCode} (s : σ) (hstart : I s vs h)
    (hround : ∀ s vs h, I s vs h → ∀ Q' : XPost, (∀ s' vs h, μ s' < μ s → I s' vs h → Q' .normal vs h) → (∀ id vs h, Q (.exit id) vs h → Q' (.exit id) vs h) → (∀ vs h, Q .ret vs h → Q' .ret vs h) → Xw FN b Q' vs h) : Xw FN (.loop b) Q vs h := by
  rw [Xw_eq] at hround ⊢
  have key : ∀ n s vs h, μ s < n → I s vs h → xloop (xwp FN b) Q n vs h := by
    intro n
    induction n with
    | zero => intro s vs h hn; omega
    | succ n ih =>
      intro s vs h hn hs
      exact hround s vs h hs _ (fun s' vs h h1 h2 => ih s' vs h (by omega) h2) (fun _ _ _ => id) fun _ _ => id
  exact ⟨μ s + 1, key _ s vs h (by omega) hstart⟩
/-- what a body's end gives, of a function that shares the caller's memory -/
def finI (rs : List (Nat × Option (Bool × Nat))) (r : PV) (h0 : Heap) (ws : List (Nat × Row)) (vs : List PV) (h : Heap) : Prop :=
  ∃ l, resVs (lkOf h []) vs rs = some l ∧ (l.length == 1 || l.all flat1) = true ∧ oneV l = r ∧ h = upd h0 ws
/-- A FUNCTION THAT SHARES THE CALLER'S MEMORY, of which a property is known -/
theorem fn_introIE {P : Program} {φ : PV → List (Nat × Row) → Prop} (hm : P.follows .mixedOrders = true) {f : FuncId} {off : Nat} {X : XFn} (hc : compFnAt P f off = some X) {first args cap : List PV} {h0 : Heap} (hlen : (first ++ args ++ cap).length ≤ X.ntmps) (ho : (first.all one && cap.all one) = true)
    (hnx : noX X.body = true) (h : ∀ Q : XPost, (∀ r ws vs h, φ r ws → finI X.results r h0 ws vs h → Q .ret vs h) → (∀ r ws vs h, φ r ws → finI X.results r h0 ws vs h → Q .normal vs h) → Xw (fns P) X.body Q (X.vars.map fun s => (first ++ args ++ cap).getD s .undef) h0) : ∃ r ws, φ r ws ∧ FI P (.fn (.func f) first cap) args h0 r ws := by
  have hh := h (fun e vs h => ∃ r ws, φ r ws ∧ xretI X.results r h0 ws e vs h) (fun r ws vs h h1 h2 => ⟨r, ws, h1, trivial, h2⟩) (fun r ws vs h h1 h2 => ⟨r, ws, h1, trivial, h2⟩)
  rw [Xw_eq] at hh
  obtain ⟨e, vs', h', h1, r, ws, h2, h3⟩ := xwp_one hnx hh
  exact ⟨r, ws, h2, fn_introI hm hc hlen ho (xwp_mono (fun e v p hx => by obtain ⟨rfl, rfl, rfl⟩ := hx; exact h3) h1)⟩
theorem fn_introXI {P : Program} (hm : P.follows .mixedOrders = true) {f : FuncId} {off : Nat} {X : XFn} (hc : compFnAt P f off = some X) {first args cap : List PV} {h0 : Heap} {r : PV} {ws : List (Nat × Row)} (hlen : (first ++ args ++ cap).length ≤ X.ntmps) (ho : (first.all one && cap.all one) = true)
    (h : ∀ Q : XPost, (∀ vs h, finI X.results r h0 ws vs h → Q .ret vs h) → (∀ vs h, finI X.results r h0 ws vs h → Q .normal vs h) → Xw (fns P) X.body Q (X.vars.map fun s => (first ++ args ++ cap).getD s .undef) h0) : FI P (.fn (.func f) first cap) args h0 r ws :=
  fn_introI hm hc hlen ho (by rw [← Xw_eq]; exact h _ (fun _ _ h => ⟨trivial, h⟩) fun _ _ h => ⟨trivial, h⟩)
theorem fn_introXF {P : Program} (hm : P.follows .mixedOrders = true) {f : FuncId} {off s0 : Nat} {X : XFn} (hc : compFnAt P f off = some { X with sites := s0, body := strip X.body }) (hns : noLS X.body = true) {first args cap : List PV} {h0 : Heap} {r : PV} {ws : List (Nat × Row)} (hlen : (first ++ args ++ cap).length ≤ X.ntmps) (ho : (first.all one && cap.all one) = true)
    (h : ∀ Q : XPost, (∀ vs h, finI X.results r h0 ws vs h → Q .ret vs h) → (∀ vs h, finI X.results r h0 ws vs h → Q .normal vs h) → Xw (fns P) X.body Q (X.vars.map fun s => (first ++ args ++ cap).getD s .undef) h0) : FI P (.fn (.func f) first cap) args h0 r ws :=
  fn_introIF hm hc hns hlen ho (by rw [← Xw_eq]; exact h _ (fun _ _ h => ⟨trivial, h⟩) fun _ _ h => ⟨trivial, h⟩)
end Go.Proofs.Ytgdcogoacnghkaa.Am
/-
  A result that is nil may be taken as an array of no elements.
-/
namespace Go.Proofs.Ytgdcogoacnghkaa.Am
set_option linter.unusedSimpArgs false
set_option linter.unusedVariables false
set_option linter.unusedSectionVars false
open Go.RowKit
section
variable {P : Program} {B : Nat} {Z0 : Nat → Prop} {G : Gh} {h : Heap} {w : World}
end
section
variable {P : Program}
theorem Fn_nil {f : FuncId} {sz : Nat} {args : List PV} (hsz : 0 < sz) (h : Fn P f [sz] args .nils) : Fn P f [sz] args (.uslc []) := by
  refine ⟨h.1, fun w Z vargs hz ha => ?_⟩
  refine (h.2 w Z vargs hz ha).mono fun e w' hh => ?_
  obtain ⟨v, G, e1, e2, e3, e4⟩ := hh
  have hr0 : resH [sz] .nils = [(0, .dead)] := rfl
  have hr1 : resH [sz] (.uslc []) = [(1, .arr sz 0 false [])] := rfl
  rw [hr0] at e3 e4
  obtain ⟨n1, n2, n3⟩ := nil_arr (k := 0) e3 rfl hsz
  have hv : v = .slice none 0 0 := rep_nils e4
  refine ⟨v, G.noR 0, e1, e2, by rw [hr1]; exact n1, ?_⟩
  rw [hr1, hv]; exact n3
theorem Fn_nil2 {f : FuncId} {sz s1 : Nat} {args : List PV} {k : IntKind} {n : Int} (hsz : 0 < sz) (h : Fn P f [sz, s1] args (.agg [.nils, .int k n])) : Fn P f [sz, s1] args (.agg [.uslc [], .int k n]) := by
  refine ⟨h.1, fun w Z vargs hz ha => ?_⟩
  refine (h.2 w Z vargs hz ha).mono fun e w' hh => ?_
  obtain ⟨v, G, e1, e2, e3, e4⟩ := hh
  have hr0 : resH [sz, s1] (.agg [.nils, .int k n]) = [(0, .dead), (0, .dead)] := rfl
  have hr1 : resH [sz, s1] (.agg [.uslc [], .int k n]) = [(1, .arr sz 0 false []), (0, .dead)] := rfl
  rw [hr0] at e3 e4
  obtain ⟨n1, n2, n3⟩ := nil_arr (k := 0) e3 rfl hsz
  obtain ⟨vs, rfl, h1, h2⟩ := rep_agg (show VRep G [(0, .dead), (0, .dead)] w' D v (.agg [.nils, .int k n]) from e4)
  refine ⟨.agg vs, G.noR 0, e1, e2, by rw [hr1]; exact n1, ?_⟩
  rw [hr1]
  refine mk_agg (cs := [.own 0 1 0 sz 0 0, .int k n]) ⟨h1, fun i c hc => ?_⟩
  match i, hc with
  | 0, hc =>
    cases hc
    obtain ⟨u, q1, q2⟩ := h2 0 _ rfl
    have hu : u = .slice none 0 0 := rep_nils q2
    exact ⟨u, q1, by rw [hu]; exact n3⟩
  | 1, hc =>
    cases hc
    obtain ⟨u, q1, q2⟩ := h2 1 _ rfl
    exact ⟨u, q1, q2.ext n2⟩
end
end Go.Proofs.Ytgdcogoacnghkaa.Am
