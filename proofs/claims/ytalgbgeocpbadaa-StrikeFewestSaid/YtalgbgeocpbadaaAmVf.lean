/-
  Arrays that are frozen on the way; code in which that is done.
-/
import Derived.Test.YtalgbgeocpbadaaAmV
namespace Go.Proofs.Ytalgbgeocpbadaa.Am
set_option linter.unusedSimpArgs false
set_option linter.unusedVariables false
set_option linter.unusedSectionVars false
open Go.RowKit
section
variable {P : Program} {B : Nat} {Z0 : Nat → Prop} {W0 : Anch B} {vs : List Nat} {N : Nat}
theorem own_slc2 {G : Gh} {h : Heap} {w : World} (hr : HRep B Z0 G h w) {u : Value} {k g' s' ver : Nat} {es : List PV} (hh : h[k]? = some (g', .arr s' ver true es)) (hp : es.all noRefE = true) (hv : VRep G h w D u (.own k g' es.length s' 0 es.length)) : VRep G h w D u (.slc (es.map frzE)) := by
  have := own_slc hr (Z' := G.Z) (fun _ x => x) hh rfl (by omega) hp (hr.fz k g' s' ver es hh) hv
  rw [List.drop_zero, List.take_length] at this
  exact mk_slc this
theorem frzR_rep {G : Gh} {h : Heap} {w : World} (hr : HRep B Z0 G h w) {u : Value} {c : PV} (ho : one c = true) (hv : VRep G h w D u c) : one (frzR h c) = true ∧ VRep G h w D u (frzR h c) := by
  by_cases hc : ∃ k g gl s o l, c = .own k g gl s o l
  · obtain ⟨k, g, gl, s, o, l, rfl⟩ := hc
    simp only [frzR]
    split
    · rename_i g' s' ver fr es hlk
      split
      · rename_i hcd
        obtain ⟨rfl, rfl, rfl, rfl, rfl, rfl, hp⟩ := hcd
        have hh : h[k]? = some (g', .arr s' ver true es) := by
          rw [List.getD_eq_getElem?_getD] at hlk
          cases hx : h[k]? with
          | none => rw [hx] at hlk; cases hlk
          | some r => rw [hx] at hlk; simp at hlk; rw [hlk]
        exact ⟨rfl, own_slc2 hr hh hp hv⟩
      · exact ⟨ho, hv⟩
    · exact ⟨ho, hv⟩
  · have e : frzR h c = c := by
      cases c <;> first | rfl | exact absurd ⟨_, _, _, _, _, _, rfl⟩ hc
    rw [e]; exact ⟨ho, hv⟩
theorem frz_var {G : Gh} {h : Heap} {w : World} (hr : HRep B Z0 G h w) {k g : Nat} {cs : List PV} (hh : h[k]? = some (g, .var cs)) :
    HRep B Z0 G (h.set k (g, .var (cs.map (frzR h)))) w ∧ Ext G h w G (h.set k (g, .var (cs.map (frzR h)))) w := by
  have hk : k < h.length := (List.getElem?_eq_some_iff.1 hh).1
  have hob := hr.ob k g _ hh
  unfold ORep at hob
  obtain ⟨hR, us, T, hb, hu⟩ := hob
  have x : Ext G h w G (h.set k (g, .var (cs.map (frzR h)))) w := by
    refine ⟨fun _ y => y, fun _ _ => rfl, fun k' gn ob e => ?_⟩
    by_cases hkk : k' = k
    · subst hkk; rw [hh] at e; cases e
      refine ⟨g, .var _, List.getElem?_set_self hk, Nat.le_refl _, fun _ => ⟨fun _ _ _ _ e' => ?_, fun cs'' e' => ⟨cs, rfl, SameKey.refl _ _⟩⟩⟩
      cases e'
    · exact ⟨gn, ob, by rw [List.getElem?_set_ne (Ne.symm hkk)]; exact e, Nat.le_refl _, fun _ => Keep.refl k' ob (SameKey.refl _ _) fun i j => SameKey.refl _ _⟩
  refine ⟨hr.update k g _ hk x (fun _ _ _ => .inl (SameKey.refl _ _)) (fun _ _ _ _ => rfl) (Nat.le_refl _) (fun b hb' => hr.zb b hb') (fun b hb => .inl hb) (fun _ _ _ _ hn => hn) (fun y hR' => ?_) (fun _ _ _ e => by cases e) ?_, x⟩
  · obtain ⟨b1, b2⟩ := hr.lv _ hR'
    exact ⟨b1, b2, fun _ => hr.nz k g _ hh rfl y hR', fun y' hR2 e => congrArg Prod.snd (hr.inj _ _ hR' hR2 e), fun k' y' hkk hR2 e => hkk (congrArg Prod.fst (hr.inj _ _ hR' hR2 e)).symm⟩
  · unfold ORep
    refine ⟨hR, us, T, hb, by rw [List.length_map]; exact hu.1, fun i c hc => ?_⟩
    rw [List.getElem?_map] at hc
    obtain ⟨c0, hc0, rfl⟩ := Option.map_eq_some_iff.1 hc
    obtain ⟨v, h1, h2⟩ := hu.2 i c0 hc0
    obtain ⟨h3, h4⟩ := frzR_rep hr h2.1 h2.2
    exact ⟨v, h1, h3, h4.ext x⟩
theorem SInv.frz {vars : List PV} {a : Act} {w : World} : ∀ {l : List (Nat × Bool)} {h : Heap}, SInv B Z0 W0 vs N vars h a w → SInv B Z0 W0 vs N vars (frzH l h) a w
  | [], h, hi => hi
  | (k, r) :: l, h, hi => by
    refine SInv.frz (l := l) ?_
    obtain ⟨G, i1, i2, i3, i4, i5⟩ := hi
    cases hh : h[k]? with
    | none =>
      have : h.set k ((h.getD k (0, .dead)).1, frzO h r (h.getD k (0, .dead)).2) = h := List.set_eq_of_length_le (by simpa using hh)
      show SInv B Z0 W0 vs N vars (h.set k _) a w
      rw [this]; exact ⟨G, i1, i2, i3, i4, i5⟩
    | some o =>
      obtain ⟨g, ob⟩ := o
      have hd : h.getD k (0, .dead) = (g, ob) := by simp [List.getD, hh]
      show SInv B Z0 W0 vs N vars (h.set k ((h.getD k (0, .dead)).1, frzO h r (h.getD k (0, .dead)).2)) a w
      rw [hd]
      have same : frzO h r ob = ob → SInv B Z0 W0 vs N vars (h.set k (g, frzO h r ob)) a w := fun e => by
        rw [e]
        have : h.set k (g, ob) = h := by
          obtain ⟨hk, hg⟩ := List.getElem?_eq_some_iff.1 hh
          rw [← hg]; exact List.set_getElem_self hk
        rw [this]; exact ⟨G, i1, i2, i3, i4, i5⟩
      have fresh : ∀ G' o', HRep B Z0 G' (h.set k (g, o')) w ∧ Ext G h w G' (h.set k (g, o')) w → SInv B Z0 W0 vs N vars (h.set k (g, o')) a w := fun G' o' hx =>
        ⟨G', hx.1, fun k s hs => by obtain ⟨v, h1, h2⟩ := i2 k s hs; exact ⟨v, h1, h2.ext hx.2⟩, i3, i4, W0.step i5 hx.2 (Bl.refl _ _)⟩
      cases ob with
      | dead => exact same rfl
      | var cs => exact fresh _ _ (frz_var i1 hh)
      | arr sz ver fr es =>
        by_cases hp : es.all noRefE = true
        · cases r with
          | false => 
            have e : frzO h false (.arr sz ver fr es) = .arr sz (ver + 1) fr (es.map frzE) := by simp only [frzO, hp, if_true, Bool.or_false]
            rw [e]; exact fresh _ _ (frz_obj i1 hh hp)
          | true =>
            have e : frzO h true (.arr sz ver fr es) = .arr sz (ver + 1) true (es.map frzE) := by simp only [frzO, hp, if_true, Bool.or_true]
            rw [e]; exact fresh _ _ (frz_whole i1 hh hp)
        · exact same (by simp only [frzO, hp]; rfl)
/-- is no state settled in it? -/
def noLS : XCode → Bool
  | .seq a b | .cond _ a b => noLS a && noLS b
  | .block _ b | .loop b | .frz _ b | .mat _ _ _ _ b => noLS b
  | .loopS .. => false
  | _ => true
/-- a slice that is nil is an array of no elements -/
def Gh.noR (G : Gh) (k : Nat) : Gh := { G with R := fun key => key.1 ≠ k ∧ G.R key, γ := fun key => if key.1 = k then 0 else G.γ key }
theorem nil_arr {G : Gh} {h : Heap} {w : World} (hr : HRep B Z0 G h w) {k sz g : Nat} (hh : h[k]? = some (g, .dead)) (hsz : 0 < sz) :
    HRep B Z0 (G.noR k) (h.set k (g + 1, .arr sz 0 false [])) w ∧ Ext G h w (G.noR k) (h.set k (g + 1, .arr sz 0 false [])) w ∧ VRep (G.noR k) (h.set k (g + 1, .arr sz 0 false [])) w D (.slice none 0 0) (.own k (g + 1) 0 sz 0 0) := by
  have hk : k < h.length := (List.getElem?_eq_some_iff.1 hh).1
  have hsame : ∀ k' y, k' ≠ k → SameKey G (G.noR k) (k', y) := fun k' y hkk => ⟨rfl, ⟨fun x => x.2, fun x => ⟨hkk, x⟩⟩, by simp [Gh.noR, hkk], rfl⟩
  have x : Ext G h w (G.noR k) (h.set k (g + 1, .arr sz 0 false [])) w := by
    refine ⟨fun _ y => y, fun _ _ => rfl, fun k' gn ob e => ?_⟩
    by_cases hkk : k' = k
    · subst hkk; rw [hh] at e; cases e
      exact ⟨g + 1, _, List.getElem?_set_self hk, by omega, fun e => by omega⟩
    · exact ⟨gn, ob, by rw [List.getElem?_set_ne (Ne.symm hkk)]; exact e, Nat.le_refl _, fun _ => Keep.refl k' ob (hsame _ _ hkk) fun i j => hsame _ _ hkk⟩
  refine ⟨hr.update k (g + 1) _ hk x (fun k' y hkk => .inl (hsame k' y hkk)) (fun _ _ _ _ => rfl) (Nat.le_refl _) (fun b hb => hr.zb b hb) (fun b hb => .inl hb) (fun _ _ _ _ hn => hn) (fun y hR => absurd rfl hR.1) (fun _ _ _ e => by cases e) ?_, x, ?_⟩
  · unfold ORep
    exact ⟨hsz, by simp, by simp [Gh.noR, root], fun hR => absurd rfl hR.1, fun _ => rfl⟩
  · unfold D VRep
    refine ⟨none, 0, rfl, Nat.le_refl _, Nat.zero_le _, .inl ⟨rfl, rfl⟩, g + 1, _, List.getElem?_set_self hk, Nat.le_refl _, fun _ sz' ver fr es e => ?_⟩
    cases e
    exact ⟨by simp, fun _ => ⟨by omega, fun hR => absurd rfl hR.1, fun _ => ⟨rfl, rfl⟩⟩⟩
/-- a cell of a variable is taken as something else -/
theorem var_cell {G : Gh} {h : Heap} {w : World} (hr : HRep B Z0 G h w) {k g j : Nat} {cs : List PV} {c' : PV} (hh : h[k]? = some (g, .var cs)) (ho : one c' = true) (hc : ∀ u c, cs[j]? = some c → VRep G h w D u c → VRep G h w D u c') :
    HRep B Z0 G (h.set k (g, .var (cs.set j c'))) w ∧ Ext G h w G (h.set k (g, .var (cs.set j c'))) w := by
  have hk : k < h.length := (List.getElem?_eq_some_iff.1 hh).1
  have hob := hr.ob k g _ hh
  unfold ORep at hob
  obtain ⟨hR, us, T, hb, hu⟩ := hob
  have x : Ext G h w G (h.set k (g, .var (cs.set j c'))) w := by
    refine ⟨fun _ y => y, fun _ _ => rfl, fun k' gn ob e => ?_⟩
    by_cases hkk : k' = k
    · subst hkk; rw [hh] at e; cases e
      refine ⟨g, .var _, List.getElem?_set_self hk, Nat.le_refl _, fun _ => ⟨fun _ _ _ _ e' => ?_, fun cs'' e' => ⟨cs, rfl, SameKey.refl _ _⟩⟩⟩
      cases e'
    · exact ⟨gn, ob, by rw [List.getElem?_set_ne (Ne.symm hkk)]; exact e, Nat.le_refl _, fun _ => Keep.refl k' ob (SameKey.refl _ _) fun i j => SameKey.refl _ _⟩
  refine ⟨hr.update k g _ hk x (fun _ _ _ => .inl (SameKey.refl _ _)) (fun _ _ _ _ => rfl) (Nat.le_refl _) (fun b hb' => hr.zb b hb') (fun b hb => .inl hb) (fun _ _ _ _ hn => hn) (fun y hR' => ?_) (fun _ _ _ e => by cases e) ?_, x⟩
  · obtain ⟨b1, b2⟩ := hr.lv _ hR'
    exact ⟨b1, b2, fun _ => hr.nz k g _ hh rfl y hR', fun y' hR2 e => congrArg Prod.snd (hr.inj _ _ hR' hR2 e), fun k' y' hkk hR2 e => hkk (congrArg Prod.fst (hr.inj _ _ hR' hR2 e)).symm⟩
  · unfold ORep
    refine ⟨hR, us, T, hb, by rw [List.length_set]; exact hu.1, fun i c hci => ?_⟩
    by_cases hij : i = j
    · subst hij
      have hl : i < cs.length := by simpa using (List.getElem?_eq_some_iff.1 hci).1
      rw [List.getElem?_set_self hl] at hci
      cases hci
      obtain ⟨v, h1, h2⟩ := hu.2 i _ (List.getElem?_eq_getElem hl)
      exact ⟨v, h1, ho, (hc v _ (List.getElem?_eq_getElem hl) h2.2).ext x⟩
    · rw [List.getElem?_set_ne (Ne.symm hij)] at hci
      obtain ⟨v, h1, h2⟩ := hu.2 i c hci
      exact ⟨v, h1, h2.1, h2.2.ext x⟩
theorem SInv.mat (hgf : ∀ {g g' : PV} {G : Gh} {h : Heap} {w : World}, W0.psi g G h w → W0.psi g' G h w) {vars : List PV} {a : Act} {w : World} {v : Nat} {c : Option Nat} {k sz : Nat} {h : Heap} (hi : SInv B Z0 W0 vs N vars h a w) : SInv B Z0 W0 vs N (matP v c k sz vars h).1 (matP v c k sz vars h).2 a w := by
  unfold matP
  split
  · rename_i g hh
    split
    · rename_i hsz
      obtain ⟨G, i1, i2, i3, i4, i5⟩ := hi
      obtain ⟨n1, n2, n3⟩ := nil_arr i1 hh hsz
      have v1 : VarsR (G.noR k) (h.set k (g + 1, .arr sz 0 false [])) w vs vars a := fun k s hk => by
        obtain ⟨v, q1, q2⟩ := i2 k s hk
        exact ⟨v, q1, q2.ext n2⟩
      split
      · rename_i hv
        refine ⟨_, n1, fun i s hs => ?_, i3, i4, hgf (W0.step i5 n2 (Bl.refl _ _))⟩
        obtain ⟨u, q1, q2⟩ := v1 i s hs
        refine ⟨u, q1, ?_⟩
        simp only [List.getD_eq_getElem?_getD] at q2 hv ⊢
        by_cases hiv : i = v
        · subst hiv
          by_cases hl : i < vars.length
          · rw [List.getElem?_set_self hl]
            rw [hv] at q2
            rw [rep_nils q2]; exact n3
          · rw [List.getElem?_eq_none (by simp; omega)]; exact mk_undef
        · rw [List.getElem?_set_ne (Ne.symm hiv)]; exact q2
      · rename_i j k2 g2 hv
        split
        · rename_i g3 cs hk2
          split
          · split
            · rename_i hcj
              have hne : k2 ≠ k := fun e => by subst e; rw [hh] at hk2; cases hk2
              have hk2' : (h.set k (g + 1, .arr sz 0 false []))[k2]? = some (g3, .var cs) := by rw [List.getElem?_set_ne (Ne.symm hne)]; exact hk2
              obtain ⟨m1, m2⟩ := var_cell n1 hk2' (c' := .own k (g + 1) 0 sz 0 0) rfl (j := j) (fun u c hc hv => by
                rw [hcj] at hc; cases hc
                rw [rep_nils hv]; exact n3)
              exact ⟨_, m1, fun i s hs => by
                obtain ⟨u, q1, q2⟩ := v1 i s hs
                exact ⟨u, q1, q2.ext m2⟩, i3, i4, hgf (W0.step (W0.step i5 n2 (Bl.refl _ _)) m2 (Bl.refl _ _))⟩
            · exact ⟨G, i1, i2, i3, i4, i5⟩
          · exact ⟨G, i1, i2, i3, i4, i5⟩
        · exact ⟨G, i1, i2, i3, i4, i5⟩
      · exact ⟨G, i1, i2, i3, i4, i5⟩
    · exact hi
  · exact hi
theorem peel (hgf : ∀ {g g' : PV} {G : Gh} {h : Heap} {w : World}, W0.psi g G h w → W0.psi g' G h w) {FN : FNs} {a : Act} {w : World} {Q : XPost} : ∀ {x : XCode} {vars : List PV} {h : Heap}, xwp FN x Q vars h → SInv B Z0 W0 vs N vars h a w → ∃ x' vars' h', (∀ l b, x' ≠ .frz l b) ∧ (∀ v c k sz b, x' ≠ .mat v c k sz b) ∧ (strip x' = strip x ∧ noLS x' = noLS x) ∧ xwp FN x' Q vars' h' ∧ SInv B Z0 W0 vs N vars' h' a w := by
  intro x
  induction x with
  | frz l b ih => intro vars h hx hi; exact ih (show xwp FN b Q vars (frzH l h) from hx) hi.frz
  | mat v c k sz b ih => intro vars h hx hi; exact ih (show xwp FN b Q (matP v c k sz vars h).1 (matP v c k sz vars h).2 from hx) (hi.mat hgf)
  | skip | reg | seq | cond | block | loop | loopS | exit | ret | rfor => intro vars h hx hi; exact ⟨_, vars, h, (fun l b e => by cases e), (fun v c k sz b e => by cases e), ⟨rfl, rfl⟩, hx, hi⟩
theorem peelF {FN : FNs} {vars : List PV} {a : Act} {w : World} {Q : XPost} : ∀ {x : XCode} {h : Heap}, xwp FN x Q vars h → SInv B Z0 W0 vs N vars h a w → ∃ x' h', (∀ l b, x' ≠ .frz l b) ∧ stripF x' = stripF x ∧ xwp FN x' Q vars h' ∧ SInv B Z0 W0 vs N vars h' a w := by
  intro x
  induction x with
  | frz l b ih => intro h hx hi; exact ih (show xwp FN b Q vars (frzH l h) from hx) hi.frz
  | skip | reg | seq | cond | block | loop | loopS | exit | ret | rfor | mat => intro h hx hi; exact ⟨_, h, (fun l b e => by cases e), rfl, hx, hi⟩
end
theorem st_skip {x : XCode} (hf : ∀ l b, x ≠ .frz l b) (hm : ∀ v c k sz b, x ≠ .mat v c k sz b) (h : strip x = .skip) : x = .skip := by cases x <;> simp [strip] at h <;> first | exact absurd rfl (hf _ _) | exact absurd rfl (hm _ _ _ _ _) | rfl
theorem st_exit {x : XCode} {id : Nat} (hf : ∀ l b, x ≠ .frz l b) (hm : ∀ v c k sz b, x ≠ .mat v c k sz b) (h : strip x = .exit id) : x = .exit id := by cases x <;> simp [strip] at h <;> first | exact absurd rfl (hf _ _) | exact absurd rfl (hm _ _ _ _ _) | (subst h; rfl)
theorem st_ret {x : XCode} (hf : ∀ l b, x ≠ .frz l b) (hm : ∀ v c k sz b, x ≠ .mat v c k sz b) (h : strip x = .ret) : x = .ret := by cases x <;> simp [strip] at h <;> first | exact absurd rfl (hf _ _) | exact absurd rfl (hm _ _ _ _ _) | rfl
theorem st_reg {x : XCode} {xs : List XOper} (hf : ∀ l b, x ≠ .frz l b) (hm : ∀ v c k sz b, x ≠ .mat v c k sz b) (h : strip x = .reg xs) : x = .reg xs := by cases x <;> simp [strip] at h <;> first | exact absurd rfl (hf _ _) | exact absurd rfl (hm _ _ _ _ _) | (subst h; rfl)
theorem st_rfor {x a b : XCode} {g : Opd} {ps : List (Option Nat)} (hf : ∀ l b, x ≠ .frz l b) (hm : ∀ v c k sz b, x ≠ .mat v c k sz b) (h : strip x = .rfor g ps a b) : ∃ a' b', x = .rfor g ps a' b' ∧ stripF a' = a ∧ stripF b' = b := by
  cases x <;> first | exact absurd rfl (hf _ _) | exact absurd rfl (hm _ _ _ _ _) | simp [strip] at h
  obtain ⟨rfl, rfl, h1, h2⟩ := h
  exact ⟨_, _, rfl, h1, h2⟩
theorem st_seq {x a b : XCode} (hf : ∀ l b, x ≠ .frz l b) (hm : ∀ v c k sz b, x ≠ .mat v c k sz b) (h : strip x = .seq a b) : ∃ a' b', x = .seq a' b' ∧ strip a' = a ∧ strip b' = b := by
  cases x <;> first | exact absurd rfl (hf _ _) | exact absurd rfl (hm _ _ _ _ _) | simp [strip] at h
  exact ⟨_, _, rfl, h.1, h.2⟩
theorem st_cond {x a b : XCode} {c : Opd} (hf : ∀ l b, x ≠ .frz l b) (hm : ∀ v c k sz b, x ≠ .mat v c k sz b) (h : strip x = .cond c a b) : ∃ a' b', x = .cond c a' b' ∧ strip a' = a ∧ strip b' = b := by
  cases x <;> first | exact absurd rfl (hf _ _) | exact absurd rfl (hm _ _ _ _ _) | simp [strip] at h
  obtain ⟨rfl, h1, h2⟩ := h
  exact ⟨_, _, rfl, h1, h2⟩
theorem st_block {x b : XCode} {id : Nat} (hf : ∀ l b, x ≠ .frz l b) (hm : ∀ v c k sz b, x ≠ .mat v c k sz b) (h : strip x = .block id b) : ∃ b', x = .block id b' ∧ strip b' = b := by
  cases x <;> first | exact absurd rfl (hf _ _) | exact absurd rfl (hm _ _ _ _ _) | simp [strip] at h
  obtain ⟨rfl, h1⟩ := h
  exact ⟨_, rfl, h1⟩
theorem st_loop {x b : XCode} (hf : ∀ l b, x ≠ .frz l b) (hm : ∀ v c k sz b, x ≠ .mat v c k sz b) (h : strip x = .loop b) : (∃ b', x = .loop b' ∧ strip b' = b) ∨ ∃ lv c0 b', x = .loopS lv c0 b' ∧ strip b' = b := by
  cases x <;> first | exact absurd rfl (hf _ _) | exact absurd rfl (hm _ _ _ _ _) | simp [strip] at h
  · exact .inl ⟨_, rfl, h⟩
  · exact .inr ⟨_, _, _, rfl, h⟩
theorem stf_skip {x : XCode} (hf : ∀ l b, x ≠ .frz l b) (h : stripF x = .skip) : x = .skip := by cases x <;> simp [stripF] at h <;> first | exact absurd rfl (hf _ _) | rfl
theorem stf_exit {x : XCode} {id : Nat} (hf : ∀ l b, x ≠ .frz l b) (h : stripF x = .exit id) : x = .exit id := by cases x <;> simp [stripF] at h <;> first | exact absurd rfl (hf _ _) | (subst h; rfl)
theorem stf_ret {x : XCode} (hf : ∀ l b, x ≠ .frz l b) (h : stripF x = .ret) : x = .ret := by cases x <;> simp [stripF] at h <;> first | exact absurd rfl (hf _ _) | rfl
theorem stf_reg {x : XCode} {xs : List XOper} (hf : ∀ l b, x ≠ .frz l b) (h : stripF x = .reg xs) : x = .reg xs := by cases x <;> simp [stripF] at h <;> first | exact absurd rfl (hf _ _) | (subst h; rfl)
theorem stf_rfor {x a b : XCode} {g : Opd} {ps : List (Option Nat)} (hf : ∀ l b, x ≠ .frz l b) (h : stripF x = .rfor g ps a b) : ∃ a' b', x = .rfor g ps a' b' ∧ stripF a' = a ∧ stripF b' = b := by
  cases x <;> first | exact absurd rfl (hf _ _) | simp [stripF] at h
  obtain ⟨rfl, rfl, h1, h2⟩ := h
  exact ⟨_, _, rfl, h1, h2⟩
theorem stf_seq {x a b : XCode} (hf : ∀ l b, x ≠ .frz l b) (h : stripF x = .seq a b) : ∃ a' b', x = .seq a' b' ∧ stripF a' = a ∧ stripF b' = b := by
  cases x <;> first | exact absurd rfl (hf _ _) | simp [stripF] at h
  exact ⟨_, _, rfl, h.1, h.2⟩
theorem stf_cond {x a b : XCode} {c : Opd} (hf : ∀ l b, x ≠ .frz l b) (h : stripF x = .cond c a b) : ∃ a' b', x = .cond c a' b' ∧ stripF a' = a ∧ stripF b' = b := by
  cases x <;> first | exact absurd rfl (hf _ _) | simp [stripF] at h
  obtain ⟨rfl, h1, h2⟩ := h
  exact ⟨_, _, rfl, h1, h2⟩
theorem stf_block {x b : XCode} {id : Nat} (hf : ∀ l b, x ≠ .frz l b) (h : stripF x = .block id b) : ∃ b', x = .block id b' ∧ stripF b' = b := by
  cases x <;> first | exact absurd rfl (hf _ _) | simp [stripF] at h
  obtain ⟨rfl, h1⟩ := h
  exact ⟨_, rfl, h1⟩
theorem stf_loop {x b : XCode} (hf : ∀ l b, x ≠ .frz l b) (h : stripF x = .loop b) : ∃ b', x = .loop b' ∧ stripF b' = b := by
  cases x <;> first | exact absurd rfl (hf _ _) | simp [stripF] at h
  exact ⟨_, rfl, h⟩
section
variable {P : Program} {B : Nat} {Z0 : Nat → Prop} {W0 : Anch B} {vs : List Nat} {N : Nat} {vars : List PV} {h : Heap} {a : Act} {w : World}
/-- CODE without loops over functions, with arrays frozen here and there -/
theorem code_soundF {ρ : Option Nat} {nn : Nat} (hm : P.follows .mixedOrders = true) (hn : vs.Nodup) {FN : FNs} (hfn : FN.fn = Fn P) (hfi : FN.fi = FI P) (hfy : FyOk P B Z0 W0 ρ vs FN.fy) : ∀ (c : Code), noR c = true → ∀ (k k' : Nat) (x : XCode), compCode P vs N k c = some (stripF x, k') → ∀ (Q' : XPost) (Q : Exit → Act → World → Prop) (vars : List PV) (h : Heap) (a : Act) (w : World),
    xwp FN x Q' vars h → SInv B Z0 W0 vs N vars h a w → PostR B Z0 W0 vs N Q' Q → c.wpIn (fz ρ) nn P Q a w := by
  intro c
  induction c with
  | skip =>
    intro hr0 k k' x hc Q' Q vars h a w hx hi hq
    have hp := peelF hx hi
    clear hx hi
    obtain ⟨x, h, hnf, hst, hx, hi⟩ := hp
    rw [← hst] at hc
    simp only [compCode, Option.some.injEq, Prod.mk.injEq] at hc
    obtain ⟨hc, rfl⟩ := hc
    obtain rfl := stf_skip hnf hc.symm
    exact wpIn_skip (hq .normal _ _ _ _ hi hx)
  | label l =>
    intro hr0 k k' x hc Q' Q vars h a w hx hi hq
    have hp := peelF hx hi
    clear hx hi
    obtain ⟨x, h, hnf, hst, hx, hi⟩ := hp
    rw [← hst] at hc
    simp only [compCode, Option.some.injEq, Prod.mk.injEq] at hc
    obtain ⟨hc, rfl⟩ := hc
    obtain rfl := stf_skip hnf hc.symm
    exact wpIn_label (hq .normal _ _ _ _ hi hx)
  | exit id =>
    intro hr0 k k' x hc Q' Q vars h a w hx hi hq
    have hp := peelF hx hi
    clear hx hi
    obtain ⟨x, h, hnf, hst, hx, hi⟩ := hp
    rw [← hst] at hc
    simp only [compCode, Option.some.injEq, Prod.mk.injEq] at hc
    obtain ⟨hc, rfl⟩ := hc
    obtain rfl := stf_exit hnf hc.symm
    exact wpIn_exit (hq (.exit id) _ _ _ _ hi hx)
  | ret =>
    intro hr0 k k' x hc Q' Q vars h a w hx hi hq
    have hp := peelF hx hi
    clear hx hi
    obtain ⟨x, h, hnf, hst, hx, hi⟩ := hp
    rw [← hst] at hc
    simp only [compCode, Option.some.injEq, Prod.mk.injEq] at hc
    obtain ⟨hc, rfl⟩ := hc
    obtain rfl := stf_ret hnf hc.symm
    exact wpIn_ret (hq .ret _ _ _ _ hi hx)
  | region id ops d =>
    intro hr0 k k' x hc Q' Q vars h a w hx hi hq
    have hp := peelF hx hi
    clear hx hi
    obtain ⟨x, h, hnf, hst, hx, hi⟩ := hp
    rw [← hst] at hc
    simp only [compCode] at hc
    split at hc
    · rename_i xs k1 hc0
      simp only [Option.some.injEq, Prod.mk.injEq] at hc
      obtain ⟨hc, rfl⟩ := hc
      obtain rfl := stf_reg hnf hc.symm
      obtain ⟨hsi, hx⟩ := hx
      rw [show ops = ops.toList.toArray by simp]
      cases d with
      | false => exact plain_sound hfn hfi hfy hn hc0 hsi hx (fun st a w hi hq' => hq .normal _ _ _ _ hi hq') hi
      | true => exact drawn_sound hm hn hc0 hsi (xrun_noy hfn hfi (drawn_of hc0).cy hx) (fun st a w hi hq' => hq .normal _ _ _ _ hi hq') hi
    · cases hc
  | seq c1 c2 ih1 ih2 =>
    intro hr0 k k' x hc Q' Q vars h a w hx hi hq
    have hp := peelF hx hi
    clear hx hi
    obtain ⟨x, h, hnf, hst, hx, hi⟩ := hp
    rw [← hst] at hc
    simp only [compCode] at hc
    split at hc
    · rename_i x1 k1 h1
      split at hc
      · rename_i x2 k2 h2
        simp only [Option.some.injEq, Prod.mk.injEq] at hc
        obtain ⟨hc, rfl⟩ := hc
        obtain ⟨x1, x2, rfl, rfl, rfl⟩ := stf_seq hnf hc.symm
        simp only [noR, Bool.and_eq_true] at hr0
        refine wpIn_seq (ih1 hr0.1 _ _ _ h1 _ _ _ _ _ _ hx hi fun e vars h a w hi he => ?_)
        cases e with
        | normal => exact ih2 hr0.2 _ _ _ h2 _ _ _ _ _ _ he hi hq
        | exit id => exact hq (.exit id) _ _ _ _ hi he
        | ret => exact hq .ret _ _ _ _ hi he
      · cases hc
    · cases hc
  | cond cd c1 c2 ih1 ih2 =>
    intro hr0 k k' x hc Q' Q vars h a w hx hi hq
    have hp := peelF hx hi
    clear hx hi
    obtain ⟨x, h, hnf, hst, hx, hi⟩ := hp
    rw [← hst] at hc
    simp only [compCode] at hc
    split at hc
    · rename_i x1 k1 h1
      split at hc
      · rename_i x2 k2 h2
        split at hc
        · rename_i dd hdd
          simp only [Option.some.injEq, Prod.mk.injEq] at hc
          obtain ⟨hc, rfl⟩ := hc
          obtain ⟨x1, x2, rfl, rfl, rfl⟩ := stf_cond hnf hc.symm
          simp only [noR, Bool.and_eq_true] at hr0
          obtain ⟨G, i1, i2, i3⟩ := id hi
          have hr := cond_rep hdd i2
          simp only [xwp] at hx
          split at hx
          · rename_i he
            rw [he] at hr
            exact wpIn_cond_true (rep_bool hr) (ih1 hr0.1 _ _ _ h1 _ _ _ _ _ _ hx hi hq)
          · rename_i he
            rw [he] at hr
            exact wpIn_cond_false (rep_bool hr) (ih2 hr0.2 _ _ _ h2 _ _ _ _ _ _ hx hi hq)
          · exact hx.elim
        · cases hc
      · cases hc
    · cases hc
  | block id c ih =>
    intro hr0 k k' x hc Q' Q vars h a w hx hi hq
    have hp := peelF hx hi
    clear hx hi
    obtain ⟨x, h, hnf, hst, hx, hi⟩ := hp
    rw [← hst] at hc
    simp only [compCode] at hc
    split at hc
    · rename_i x1 k1 h1
      simp only [Option.some.injEq, Prod.mk.injEq] at hc
      obtain ⟨hc, rfl⟩ := hc
      obtain ⟨x1, rfl, rfl⟩ := stf_block hnf hc.symm
      refine wpIn_block (ih hr0 _ _ x1 h1 _ _ _ _ _ _ hx hi fun e vars h a w hi he => ?_)
      cases e with
      | normal => exact hq .normal _ _ _ _ hi he
      | exit i =>
        simp only [xin] at he
        show Exit.inBlock id Q (.exit i) a w
        simp only [Exit.inBlock]
        split at he
        · rename_i e; rw [if_pos e]; exact hq .normal _ _ _ _ hi he
        · rename_i e; rw [if_neg e]; exact hq (.exit i) _ _ _ _ hi he
      | ret => exact hq .ret _ _ _ _ hi he
    · cases hc
  | loop c ih =>
    intro hr0 k k' x hc Q' Q vars h a w hx hi hq
    have hp := peelF hx hi
    clear hx hi
    obtain ⟨x, h, hnf, hst, hx, hi⟩ := hp
    rw [← hst] at hc
    simp only [compCode] at hc
    split at hc
    · rename_i x1 k1 h1
      simp only [Option.some.injEq, Prod.mk.injEq] at hc
      obtain ⟨hc, rfl⟩ := hc
      obtain ⟨x1, rfl, rfl⟩ := stf_loop hnf hc.symm
      obtain ⟨n, hx⟩ := hx
      refine wpIn_loop_rounds n ?_
      induction n generalizing vars h a w with
      | zero => exact hx.elim
      | succ n ihn =>
        refine ih hr0 _ _ x1 h1 _ _ _ _ _ _ hx hi fun e vars h a w hi he => ?_
        cases e with
        | normal => exact ihn _ _ _ _ hi he
        | exit id => exact hq (.exit id) _ _ _ _ hi he
        | ret => exact hq .ret _ _ _ _ hi he
    · cases hc
  | scope c ih =>
    intro hr0 k k' x hc Q' Q vars h a w hx hi hq
    have hp := peelF hx hi
    clear hx hi
    obtain ⟨x, h, hnf, hst, hx, hi⟩ := hp
    rw [← hst] at hc
    simp only [compCode] at hc
    refine wpIn_scope_straight (ih hr0 _ _ _ hc _ _ _ _ _ _ hx hi fun e vars h a w hi he => ?_)
    cases e with
    | normal => exact hq .normal _ _ _ _ hi he
    | exit id => exact hq (.exit id) _ _ _ _ hi he
    | ret => exact hq .ret _ _ _ _ hi he
  | rangeFunc => intro hr0; simp [noR] at hr0
  | _ =>
    intro hr0 k k' x hc
    simp only [compCode] at hc
    cases hc
end
end Go.Proofs.Ytalgbgeocpbadaa.Am
