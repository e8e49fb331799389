/-
  .. what is appended.
-/
import Derived.Test.YtalgbgeocpbadaaAmK
namespace Go.Proofs.Ytalgbgeocpbadaa.Am
set_option linter.unusedSimpArgs false
set_option linter.unusedVariables false
set_option linter.unusedSectionVars false
open Go.RowKit
section
variable {P : Program} {B : Nat} {Z0 : Nat → Prop} {G G' : Gh} {h h' : Heap} {w w' : World}
/-- an object is given up as a whole -/
theorem kill_simple (hr : HRep B Z0 G h w) {k g : Nat} {ob : Ob} (hh : h[k]? = some (g, ob)) : HRep B Z0 G (h.set k (g, .dead)) w ∧ Ext G h w G (h.set k (g, .dead)) w := by
  have hk : k < h.length := (List.getElem?_eq_some_iff.1 hh).1
  have x : Ext G h w G (h.set k (g, .dead)) w := by
    refine ⟨fun _ y => y, fun _ _ => rfl, fun k' gn o e => ?_⟩
    by_cases hkk : k' = k
    · subst hkk; rw [hh] at e; cases e
      exact ⟨g, .dead, List.getElem?_set_self hk, Nat.le_refl _, fun _ => Keep.dead _ _⟩
    · exact ⟨gn, o, by rw [List.getElem?_set_ne (Ne.symm hkk)]; exact e, Nat.le_refl _, fun _ => Keep.refl k' o (SameKey.refl _ _) fun i j => SameKey.refl _ _⟩
  refine ⟨hr.update k g .dead hk x (fun _ _ _ => .inl (SameKey.refl _ _)) (fun _ _ _ _ => rfl) (Nat.le_refl _) hr.zb (fun b hb => .inl hb) (fun _ _ _ _ hn => hn) (fun y hR => ?_) (fun _ _ _ e => by cases e) trivial, x⟩
  obtain ⟨b1, b2⟩ := hr.lv _ hR
  exact ⟨b1, b2, fun e => absurd e (by simp [liveOb]), fun y' hR2 e => congrArg Prod.snd (hr.inj _ _ hR hR2 e), fun k' y' hkk hR2 e => hkk (congrArg Prod.fst (hr.inj _ _ hR hR2 e)).symm⟩
def Gh.frz2 (G : Gh) (k : Nat) : Gh := { G with Z := fun b => G.Z b ∨ ∃ ij, G.R (k, some ij) ∧ b = G.β (k, some ij), R := fun key => (key.1 = k → key.2 = none) ∧ G.R key }
/-- the arrays that lie in the elements of an array are frozen -/
theorem frz_obj (hr : HRep B Z0 G h w) {k g s ver : Nat} {fr : Bool} {es : List PV} (hh : h[k]? = some (g, .arr s ver fr es)) (hp : es.all noRefE = true) :
    HRep B Z0 (G.frz2 k) (h.set k (g, .arr s (ver + 1) fr (es.map frzE))) w ∧ Ext G h w (G.frz2 k) (h.set k (g, .arr s (ver + 1) fr (es.map frzE))) w := by
  have hk : k < h.length := (List.getElem?_eq_some_iff.1 hh).1
  have hsame : ∀ k' y, k' ≠ k → SameKey G (G.frz2 k) (k', y) := fun k' y hkk => ⟨rfl, ⟨fun x => x.2, fun x => ⟨fun e => absurd e hkk, x⟩⟩, rfl, rfl⟩
  have hroot : SameKey G (G.frz2 k) (root k) := ⟨rfl, ⟨fun x => x.2, fun x => ⟨fun _ => rfl, x⟩⟩, rfl, rfl⟩
  have hob := hr.ob k g _ hh
  unfold ORep at hob
  obtain ⟨o1, o2, o3, o4, o5⟩ := hob
  have x : Ext G h w (G.frz2 k) (h.set k (g, .arr s (ver + 1) fr (es.map frzE))) w := by
    refine ⟨fun _ y => .inl y, fun _ _ => rfl, fun k' gn ob e => ?_⟩
    by_cases hkk : k' = k
    · subst hkk; rw [hh] at e; cases e
      refine ⟨g, _, List.getElem?_set_self hk, Nat.le_refl _, fun _ => ⟨fun sz' v' fr' es' e' => ?_, fun cs' e' => by cases e'⟩⟩
      cases e'
      exact ⟨ver, fr, es, rfl, by simp, by omega, fun _ => hroot, fun e => by omega⟩
    · exact ⟨gn, ob, by rw [List.getElem?_set_ne (Ne.symm hkk)]; exact e, Nat.le_refl _, fun _ => Keep.refl k' ob (hsame _ _ hkk) fun i j => hsame _ _ hkk⟩
  refine ⟨hr.update k g _ hk x (fun k' y hkk => .inl (hsame k' y hkk)) (fun _ _ _ _ => rfl) (Nat.le_refl _) ?_ (fun b hb => hb.imp id fun ⟨ij, h1, h2⟩ => h2 ▸ (hr.lv _ h1).1) ?_ ?_ ?_ ?_, x⟩
  · rintro b (hb | ⟨ij, hR, rfl⟩)
    · exact hr.zb b hb
    · exact (hr.lv _ hR).2
  · rintro k' y hkk hR hn (hb | ⟨ij, hR2, he⟩)
    · exact hn hb
    · exact hkk (congrArg Prod.fst (hr.inj _ _ hR hR2 he))
  · intro y hR
    obtain ⟨b1, b2⟩ := hr.lv (k, y) hR.2
    have hy : y = none := hR.1 rfl
    subst hy
    refine ⟨b1, b2, fun hl => ?_, fun y' hR' he => congrArg Prod.snd (hr.inj _ _ hR.2 hR'.2 he), fun k' y' hkk hR' he => hkk (congrArg Prod.fst (hr.inj _ _ hR.2 hR'.2 he)).symm⟩
    rintro (hb | ⟨ij, hR2, he⟩)
    · exact hr.nz k g _ hh hl none hR.2 hb
    · have := hr.inj _ _ hR.2 hR2 he
      simp at this
  · intro sz' v' es' e y hR
    cases e
    exact .inl (hr.fz k g s ver es hh y hR.2)
  · unfold ORep
    refine ⟨o1, by rw [List.length_map]; exact o2, o3, fun hR => ?_, fun hn => by rw [o5 fun y => hn ⟨fun _ => rfl, y⟩]; rfl⟩
    obtain ⟨us, T, o6, o7, o8⟩ := o4 hR.2
    refine ⟨us, T, o6, o7, fun i e he => ?_⟩
    rw [List.getElem?_map] at he
    obtain ⟨e0, he0, rfl⟩ := Option.map_eq_some_iff.1 he
    obtain ⟨o9, o10⟩ := o8 i e0 he0
    rw [ecells_frz]
    refine ⟨by simpa using o9, fun j c hc => ?_⟩
    rw [List.getElem?_map] at hc
    obtain ⟨c0, hc0, rfl⟩ := Option.map_eq_some_iff.1 hc
    obtain ⟨u, o11, o12⟩ := o10 j c0 hc0
    have hnr : (pureC c0 || isU c0) = true := List.all_eq_true.1 (show (ecells e0).all (fun c => pureC c || isU c) = true from List.all_eq_true.1 hp e0 (List.mem_of_getElem? he0)) c0 (List.mem_of_getElem? hc0)
    obtain ⟨o13, o14⟩ := crep_frz (Z' := (G.frz2 k).Z) (fun b hb => .inl hb) (fun hR' => .inr ⟨(i, j), hR', rfl⟩) hnr o12
    refine ⟨u, o11, ?_⟩
    have hv := prep_vrep (G := G.frz2 k) (h := h.set k (g, .arr s (ver + 1) fr (es.map frzE))) o13 o14
    revert o13 hv
    cases frzC c0 <;> intro o13 hv <;> first | (simp [one] at o13; done) | (unfold CRep; exact ⟨o13, hv⟩)
def Gh.frz3 (G : Gh) (k : Nat) : Gh := { G with Z := fun b => G.Z b ∨ ∃ y, G.R (k, y) ∧ b = G.β (k, y), R := fun key => (key.1 = k → key.2 = none) ∧ G.R key }
/-- an array is frozen, and those in its elements -/
theorem frz_whole (hr : HRep B Z0 G h w) {k g s ver : Nat} {fr : Bool} {es : List PV} (hh : h[k]? = some (g, .arr s ver fr es)) (hp : es.all noRefE = true) :
    HRep B Z0 (G.frz3 k) (h.set k (g, .arr s (ver + 1) true (es.map frzE))) w ∧ Ext G h w (G.frz3 k) (h.set k (g, .arr s (ver + 1) true (es.map frzE))) w := by
  have hk : k < h.length := (List.getElem?_eq_some_iff.1 hh).1
  have hsame : ∀ k' y, k' ≠ k → SameKey G (G.frz3 k) (k', y) := fun k' y hkk => ⟨rfl, ⟨fun x => x.2, fun x => ⟨fun e => absurd e hkk, x⟩⟩, rfl, rfl⟩
  have hroot : SameKey G (G.frz3 k) (root k) := ⟨rfl, ⟨fun x => x.2, fun x => ⟨fun _ => rfl, x⟩⟩, rfl, rfl⟩
  have hob := hr.ob k g _ hh
  unfold ORep at hob
  obtain ⟨o1, o2, o3, o4, o5⟩ := hob
  have x : Ext G h w (G.frz3 k) (h.set k (g, .arr s (ver + 1) true (es.map frzE))) w := by
    refine ⟨fun _ y => .inl y, fun _ _ => rfl, fun k' gn ob e => ?_⟩
    by_cases hkk : k' = k
    · subst hkk; rw [hh] at e; cases e
      refine ⟨g, _, List.getElem?_set_self hk, Nat.le_refl _, fun _ => ⟨fun sz' v' fr' es' e' => ?_, fun cs' e' => by cases e'⟩⟩
      cases e'
      exact ⟨ver, fr, es, rfl, by simp, by omega, fun _ => hroot, fun e => by omega⟩
    · exact ⟨gn, ob, by rw [List.getElem?_set_ne (Ne.symm hkk)]; exact e, Nat.le_refl _, fun _ => Keep.refl k' ob (hsame _ _ hkk) fun i j => hsame _ _ hkk⟩
  refine ⟨hr.update k g _ hk x (fun k' y hkk => .inl (hsame k' y hkk)) (fun _ _ _ _ => rfl) (Nat.le_refl _) ?_ (fun b hb => hb.imp id fun ⟨ij, h1, h2⟩ => h2 ▸ (hr.lv _ h1).1) ?_ ?_ ?_ ?_, x⟩
  · rintro b (hb | ⟨ij, hR, rfl⟩)
    · exact hr.zb b hb
    · exact (hr.lv _ hR).2
  · rintro k' y hkk hR hn (hb | ⟨ij, hR2, he⟩)
    · exact hn hb
    · exact hkk (congrArg Prod.fst (hr.inj _ _ hR hR2 he))
  · intro y hR
    obtain ⟨b1, b2⟩ := hr.lv (k, y) hR.2
    have hy : y = none := hR.1 rfl
    subst hy
    exact ⟨b1, b2, fun hl => by (simp [liveOb] at hl), fun y' hR' he => congrArg Prod.snd (hr.inj _ _ hR.2 hR'.2 he), fun k' y' hkk hR' he => hkk (congrArg Prod.fst (hr.inj _ _ hR.2 hR'.2 he)).symm⟩
  · intro sz' v' es' e y hR
    cases e
    exact .inr ⟨y, hR.2, rfl⟩
  · unfold ORep
    refine ⟨o1, by rw [List.length_map]; exact o2, o3, fun hR => ?_, fun hn => by rw [o5 fun y => hn ⟨fun _ => rfl, y⟩]; rfl⟩
    obtain ⟨us, T, o6, o7, o8⟩ := o4 hR.2
    refine ⟨us, T, o6, o7, fun i e he => ?_⟩
    rw [List.getElem?_map] at he
    obtain ⟨e0, he0, rfl⟩ := Option.map_eq_some_iff.1 he
    obtain ⟨o9, o10⟩ := o8 i e0 he0
    rw [ecells_frz]
    refine ⟨by simpa using o9, fun j c hc => ?_⟩
    rw [List.getElem?_map] at hc
    obtain ⟨c0, hc0, rfl⟩ := Option.map_eq_some_iff.1 hc
    obtain ⟨u, o11, o12⟩ := o10 j c0 hc0
    have hnr : (pureC c0 || isU c0) = true := List.all_eq_true.1 (show (ecells e0).all (fun c => pureC c || isU c) = true from List.all_eq_true.1 hp e0 (List.mem_of_getElem? he0)) c0 (List.mem_of_getElem? hc0)
    obtain ⟨o13, o14⟩ := crep_frz (Z' := (G.frz3 k).Z) (fun b hb => .inl hb) (fun hR' => .inr ⟨some (i, j), hR', rfl⟩) hnr o12
    refine ⟨u, o11, ?_⟩
    have hv := prep_vrep (G := G.frz3 k) (h := h.set k (g, .arr s (ver + 1) true (es.map frzE))) o13 o14
    revert o13 hv
    cases frzC c0 <;> intro o13 hv <;> first | (simp [one] at o13; done) | (unfold CRep; exact ⟨o13, hv⟩)
/-- what is appended, as it lies: n elements, the q-th cell V q; mk: the arrays that move -/
structure Src (G : Gh) (h : Heap) (w : World) (vx : Value) (sz : Nat) (news : List PV) (V : Nat → Value) (mk : Nat → Nat → Option Nat) : Prop where
  shape : ∃ a c, vx = .slice a news.length c ∧ (news.length = 0 ∨ ∃ b f, a = some ⟨b, f, none⟩ ∧ ∀ q, q < news.length * sz → w.cell? ⟨b, f + q, none⟩ = some (V q))
  cells : ∀ (i : Nat) d, news[i]? = some d → (ecells d).length = sz ∧ ∀ (t : Nat) c, (ecells d)[t]? = some c → ECell G h w (mk i t) (V (i * sz + t)) c
theorem div_lt {q n sz : Nat} (hq : q < n * sz) : q / sz < n := by
  rcases Nat.eq_zero_or_pos sz with rfl | h0
  · omega
  · exact (Nat.div_lt_iff_lt_mul h0).2 hq
/-- from a row of cells -/
theorem src_of {vx : Value} {sz : Nat} {news : List PV} {a : Option Addr} {c b f : Nat} (hx : vx = .slice a news.length c) (ha : news.length = 0 ∨ a = some ⟨b, f, none⟩)
    (hc : ∀ (i : Nat) d, news[i]? = some d → (ecells d).length = sz ∧ ∀ (t : Nat) x, (ecells d)[t]? = some x → ∃ u, w.cell? ⟨b, f + (i * sz + t), none⟩ = some u ∧ one x = true ∧ VRep G h w D u x) :
    Src G h w vx sz news (fun q => (w.cell? ⟨b, f + q, none⟩).getD undef) (fun _ _ => none) := by
  refine ⟨⟨a, c, hx, ha.imp id fun e => ⟨b, f, e, fun q hq => ?_⟩⟩, fun i d hd => ⟨(hc i d hd).1, fun t x hx' => ?_⟩⟩
  · have hn := div_lt hq
    obtain ⟨d, hd⟩ : ∃ d, news[q / sz]? = some d := ⟨news[q / sz], List.getElem?_eq_getElem hn⟩
    obtain ⟨h1, h2⟩ := hc _ d hd
    have h0 : 0 < sz := by
      rcases Nat.eq_zero_or_pos sz with rfl | h0
      · omega
      · exact h0
    have hm : q % sz < (ecells d).length := by rw [h1]; exact Nat.mod_lt _ h0
    obtain ⟨u, h3, _⟩ := h2 (q % sz) _ (List.getElem?_eq_getElem hm)
    rw [show q / sz * sz + q % sz = q by rw [Nat.mul_comm]; exact Nat.div_add_mod q sz] at h3
    rw [h3]; rfl
  · obtain ⟨u, h3, h4, h5⟩ := (hc i d hd).2 t x hx'
    show ECell G h w none ((w.cell? ⟨b, f + (i * sz + t), none⟩).getD undef) x
    rw [h3]; exact ⟨h4, h5⟩
theorem frzC_pure {c : PV} (hp : pureC c = true) : frzC c = c := by cases c <;> first | rfl | (simp [pureC] at hp)
theorem frzE_pure {e : PV} (hp : (ecells e).all pureC = true) : frzE e = e := by
  cases e
  case agg cs =>
    show PV.agg (cs.map frzC) = .agg cs
    congr 1
    conv => rhs; rw [← List.map_id cs]
    exact List.map_congr_left fun c hc => frzC_pure (List.all_eq_true.1 hp c hc)
  case uslc => simp [ecells, pureC] at hp
  all_goals rfl
theorem sz_of {sz : Nat} {news : List PV} (hz : szOk sz news = true) {i : Nat} {d : PV} (hd : news[i]? = some d) : (ecells d).length = sz := by
  have := List.all_eq_true.1 hz d (List.mem_of_getElem? hd)
  simpa using this
/-- what is appended -/
theorem snd_src (hr : HRep B Z0 G h w) {hide : List Nat} {mode sz : Nat} {vx : Value} {px : PV} {news : List PV} {ws : List (Nat × Row)} (hv : VRep G h w D vx px) (hz : szOk sz news = true) (hk : srcP (lkOf h hide) mode px = some (news, ws)) :
    ∃ G1 V mk, HRep B Z0 G1 (upd h ws) w ∧ Ext G h w G1 (upd h ws) w ∧ Src G1 (upd h ws) w vx sz news V mk ∧ (∀ k, k ∉ ws.map (·.1) → (upd h ws)[k]? = h[k]?) ∧
      (∀ i t k2, mk i t = some k2 → i < news.length ∧ k2 ∈ ws.map (·.1) ∧ (∃ g2, (upd h ws)[k2]? = some (g2, .dead)) ∧ (G1.R (root k2) → ¬ G1.Z (G1.β (root k2)))) ∧ (∀ i t i' t' k2, mk i t = some k2 → mk i' t' = some k2 → i = i' ∧ t = t') ∧
      (∀ k, k ∉ ws.map (·.1) → (G1.R (root k) ↔ G.R (root k)) ∧ G1.β (root k) = G.β (root k) ∧ G1.γ (root k) = G.γ (root k)) := by
  have triv : ∀ {V}, ws = [] → Src G h w vx sz news V (fun _ _ => none) → ∃ G1 V mk, HRep B Z0 G1 (upd h ws) w ∧ Ext G h w G1 (upd h ws) w ∧ Src G1 (upd h ws) w vx sz news V mk ∧ (∀ k, k ∉ ws.map (·.1) → (upd h ws)[k]? = h[k]?) ∧
      (∀ i t k2, mk i t = some k2 → i < news.length ∧ k2 ∈ ws.map (·.1) ∧ (∃ g2, (upd h ws)[k2]? = some (g2, .dead)) ∧ (G1.R (root k2) → ¬ G1.Z (G1.β (root k2)))) ∧ (∀ i t i' t' k2, mk i t = some k2 → mk i' t' = some k2 → i = i' ∧ t = t') ∧
      (∀ k, k ∉ ws.map (·.1) → (G1.R (root k) ↔ G.R (root k)) ∧ G1.β (root k) = G.β (root k) ∧ G1.γ (root k) = G.γ (root k)) := fun {V} e hs => by
    subst e
    exact ⟨G, V, fun _ _ => none, hr, Ext.refl, hs, fun _ _ => rfl, fun _ _ _ e => absurd e (by simp), fun _ _ _ _ _ e => absurd e (by simp), fun _ _ => ⟨Iff.rfl, rfl, rfl⟩⟩
  cases px <;> (try (simp [srcP] at hk; done))
  case slc es =>
    simp only [srcP, Option.some.injEq, Prod.mk.injEq] at hk
    obtain ⟨rfl, rfl⟩ := hk
    obtain ⟨a, c, sz0, rfl, h2, h3, h4, h5⟩ := PR.slc_iff.1 (rep_slc hv)
    by_cases hn : es.length = 0
    · exact triv rfl (src_of (b := 0) (f := 0) rfl (.inl hn) fun i d hd => by rw [List.length_eq_zero_iff.1 hn] at hd; simp at hd)
    · obtain ⟨e0, he0⟩ : ∃ e, es[0]? = some e := ⟨es[0], List.getElem?_eq_getElem (by omega)⟩
      obtain ⟨h6, b, o, rfl, _⟩ := h5 0 e0 he0
      refine triv rfl (src_of (b := b) (f := o) rfl (.inr rfl) fun i d hd => ⟨sz_of hz hd, fun t x hx => ?_⟩)
      obtain ⟨h7, b', o', e1, h8, h9⟩ := h5 i d hd
      cases e1
      obtain ⟨h10, u, h11, h12⟩ := h9 t x hx
      exact ⟨u, by rw [← sz_of hz hd, h7]; exact h11, h10, prep_vrep h10 h12⟩
  case nils =>
    simp only [srcP, Option.some.injEq, Prod.mk.injEq] at hk
    obtain ⟨rfl, rfl⟩ := hk
    obtain rfl := rep_nils hv
    exact triv rfl (src_of (b := 0) (f := 0) (a := none) (c := 0) rfl (.inl rfl) fun i d hd => by simp at hd)
  case own k g gl s o l =>
    simp only [srcP] at hk
    split at hk
    · rename_i g' s' ver fr es hlk
      split at hk
      · rename_i hc
        obtain ⟨rfl, hgl, rfl, hol⟩ := hc
        have hh := lk_some hlk (by simp)
        have hob := hr.ob k _ _ hh
        unfold ORep at hob
        obtain ⟨o1, o2, o3, o4, o5⟩ := hob
        unfold D at hv; unfold VRep at hv
        obtain ⟨a, c, rfl, q1, q2, q3, gn, ob, q4, q5, q6⟩ := hv
        rw [hh] at q4; cases q4
        obtain ⟨_, q7⟩ := q6 rfl _ _ _ _ rfl
        obtain ⟨_, q8, q9⟩ := q7 hgl
        have hsub : ((es.drop o).take l).length = l := by simp; omega
        -- the cells
        have hcells : l = 0 ∨ ∃ f us T, G.R (root k) ∧ a = some ⟨G.β (root k), f, none⟩ ∧ (f = o * s') ∧ w.heap[G.β (root k)]? = some (.cells us T (0, 0)) ∧ us.size = G.γ (root k) * s' ∧ ∀ (i : Nat) e, es[i]? = some e → (ecells e).length = s' ∧ ∀ (j : Nat) c, (ecells e)[j]? = some c → ∃ u, us[i * s' + j]? = some u ∧ CRep G h w k i j u c := by
          by_cases hl0 : l = 0
          · exact .inl hl0
          · right
            have hR : G.R (root k) := Classical.byContradiction fun hn => by
              have := o5 hn; subst this; simp at hgl; omega
            obtain ⟨us, T, o6, o7, o8⟩ := o4 hR
            obtain ⟨f, e1, q10, _⟩ := q8 hR
            refine ⟨f, us, T, hR, e1, ?_, o6, o7, o8⟩
            rcases q10 with q10 | q10
            · omega
            · exact q10 rfl
        split at hk
        · -- a list that is written out
          split at hk
          · rename_i ds ks hemb
            split at hk
            · cases hk
            · rename_i hkk
              have hkk : k ∉ ks := by simpa using hkk
              simp only [Option.some.injEq, Prod.mk.injEq] at hk
              obtain ⟨rfl, rfl⟩ := hk
              have hlive : ∀ (i : Nat) e, ((es.drop o).take l)[i]? = some e → ∀ (t : Nat) c, (ecells e)[t]? = some c → one c = true ∧ VRep G h w D ((w.cell? ⟨G.β (root k), (o + i) * s' + t, none⟩).getD undef) c := fun i e he t c hc => by
                have hil : i < l := by rw [← hsub]; exact (List.getElem?_eq_some_iff.1 he).1
                rw [List.getElem?_take, if_pos hil, List.getElem?_drop] at he
                obtain ⟨f, us, T, hR, _, _, o6, o7, o8⟩ := hcells.resolve_left (by omega)
                obtain ⟨u, o11, o12⟩ := (o8 _ e he).2 t c hc
                rw [block_cell o6, o11]
                have hone : one c = true := by
                  have : ∀ {cs : List PV} {ds : List PV} {ks : List Nat}, embCs (lkOf h hide) cs = some (ds, ks) → ∀ c ∈ cs, one c = true := by
                    intro cs
                    induction cs with
                    | nil => intro _ _ _ c hc; simp at hc
                    | cons c0 cs ih =>
                      intro ds ks hk c hc
                      simp only [embCs] at hk
                      split at hk
                      · rename_i hc0 hcs0
                        rcases List.mem_cons.1 hc with rfl | hc
                        · cases c <;> first | rfl | (simp [embC] at hc0)
                        · exact ih hcs0 c hc
                      · cases hk
                  have h2 : ∀ {es ds : List PV} {ks : List Nat}, embEs (lkOf h hide) es = some (ds, ks) → ∀ e ∈ es, ∃ ds ks, embCs (lkOf h hide) (ecells e) = some (ds, ks) := by
                    intro es
                    induction es with
                    | nil => intro _ _ _ c hc; simp at hc
                    | cons c0 cs ih =>
                      intro ds ks hk c hc
                      simp only [embEs] at hk
                      split at hk
                      · rename_i hc0 hcs0
                        rcases List.mem_cons.1 hc with rfl | hc
                        · unfold embE at hc0
                          split at hc0
                          · exact ⟨_, _, by assumption⟩
                          · cases hc0
                        · exact ih hcs0 c hc
                      · cases hk
                  have hmem : e ∈ (es.drop o).take l := List.mem_of_getElem? (i := i) (by rw [List.getElem?_take, if_pos hil, List.getElem?_drop]; exact he)
                  obtain ⟨ds', ks', h3⟩ := h2 hemb e hmem
                  exact this h3 c (List.mem_of_getElem? hc)
                cases c <;> first | (simp [one] at hone; done) | (unfold CRep at o12; exact o12)
              obtain ⟨G1, mk, e1, e2, e3, e4, e5, e6, e7⟩ := embEs_spec (val := fun i t => (w.cell? ⟨G.β (root k), (o + i) * s' + t, none⟩).getD undef) hr (fun _ _ => rfl) (fun _ _ _ _ _ _ => rfl) hlive hemb
              obtain ⟨x1, x2⟩ := kill_simple e1 ((e3.other k hkk).trans hh)
              have hupd : upd h (kill (lkOf h hide) (ks ++ [k])) = (upd h (kill (lkOf h hide) ks)).set k (g', .dead) := by
                rw [kill_append, upd_append]; simp [upd, kill, hlk]
              have hw1 : (kill (lkOf h hide) (ks ++ [k])).map (·.1) = ks ++ [k] := by simp [kill, Function.comp_def]
              rw [hupd, hw1]
              have hlen : ds.length = l := by rw [e4, hsub]
              refine ⟨G1, fun q => (w.cell? ⟨G.β (root k), o * s' + q, none⟩).getD undef, mk, x1, e2.trans x2, ?_, ?_, ?_, e7, ?_⟩
              · refine ⟨⟨a, c, by rw [hlen], ?_⟩, fun i d hd => ?_⟩
                · rw [hlen]
                  by_cases hl0 : l = 0
                  · exact .inl hl0
                  · right
                    obtain ⟨f, us, T, hR, e8, hf, o6, o7, o8⟩ := hcells.resolve_left hl0
                    obtain ⟨d0, hd0⟩ : ∃ d, ds[0]? = some d := ⟨ds[0], List.getElem?_eq_getElem (by omega)⟩
                    have hss : sz = s' := by
                      rw [← sz_of hz hd0]
                      obtain ⟨e9, he9⟩ : ∃ e, ((es.drop o).take l)[0]? = some e := ⟨((es.drop o).take l)[0], List.getElem?_eq_getElem (by omega)⟩
                      rw [(e5 0 d0 e9 hd0 he9).1]
                      rw [List.getElem?_take, if_pos (by omega), List.getElem?_drop] at he9
                      exact (o8 _ e9 he9).1
                    refine ⟨_, f, e8, fun q hq => ?_⟩
                    rw [hf, block_cell o6]
                    have hlt : o * s' + q < us.size := by
                      rw [o7]
                      have h9 : (o + l) * s' ≤ G.γ (root k) * s' := Nat.mul_le_mul_right _ (by omega)
                      rw [Nat.add_mul] at h9
                      rw [hss] at hq; omega
                    simp [hlt]
                · refine ⟨sz_of hz hd, fun t cc hcc => ?_⟩
                  have hil : i < l := by rw [← hlen]; exact (List.getElem?_eq_some_iff.1 hd).1
                  obtain ⟨e9, he9⟩ : ∃ e, ((es.drop o).take l)[i]? = some e := ⟨((es.drop o).take l)[i], List.getElem?_eq_getElem (by omega)⟩
                  obtain ⟨q10, q11⟩ := e5 i d e9 hd he9
                  rw [List.getElem?_take, if_pos hil, List.getElem?_drop] at he9
                  obtain ⟨f, us, T, hR, e8, hf, o6, o7, o8⟩ := hcells.resolve_left (by omega)
                  have hss : sz = s' := by rw [← sz_of hz hd, q10]; exact (o8 _ e9 he9).1
                  have hec := q11 t cc hcc
                  rw [show (o + i) * s' + t = o * s' + (i * sz + t) by rw [hss, Nat.add_mul]; omega] at hec
                  refine hec.ext x2 (fun k2 hm => SameKey.refl _ _) (fun k2 hm _ => rfl)
              · intro k' hk'
                simp only [List.mem_append, List.mem_singleton, not_or] at hk'
                rw [List.getElem?_set_ne (Ne.symm hk'.2)]
                exact e3.other k' hk'.1
              · intro i t k2 hm
                obtain ⟨p1, p2⟩ := e6 i t k2 hm
                have hne : k2 ≠ k := fun e => hkk (e ▸ p1)
                refine ⟨p2, by simp [p1], ?_, fun hR2 => killed_nz hr e3 p1 (by rw [e3.R] at hR2; exact hR2)⟩
                obtain ⟨g2, hg2⟩ := e3.dead k2 p1
                exact ⟨g2, by rw [List.getElem?_set_ne (Ne.symm hne)]; exact hg2⟩
              · intro k' hk'
                simp only [List.mem_append, List.mem_singleton, not_or] at hk'
                obtain ⟨p1, p2, p3, _⟩ := e3.same k' none hk'.1
                exact ⟨p2, p1, p3⟩
          · cases hk
        · split at hk
          · rename_i hno
            obtain ⟨hno, _⟩ := hno
            simp only [Option.some.injEq, Prod.mk.injEq] at hk
            obtain ⟨rfl, hws⟩ := hk
            have hlen : (((es.drop o).take l).map frzE).length = l := by simp; omega
            have hget : ∀ (i : Nat) d, (((es.drop o).take l).map frzE)[i]? = some d → ∃ e, es[o + i]? = some e ∧ d = frzE e ∧ i < l := fun i d hd => by
              have hil : i < l := by rw [← hlen]; exact (List.getElem?_eq_some_iff.1 hd).1
              rw [List.getElem?_map, List.getElem?_take, if_pos hil, List.getElem?_drop] at hd
              obtain ⟨e, he, rfl⟩ := Option.map_eq_some_iff.1 hd
              exact ⟨e, he, rfl, hil⟩
            have hss : ∀ {i : Nat} {e : PV}, es[o + i]? = some e → i < l → sz = s' := fun {i e} he hil => by
              obtain ⟨f, us, T, hR, e8, hf, o6, o7, o8⟩ := hcells.resolve_left (by omega)
              have hd : (((es.drop o).take l).map frzE)[i]? = some (frzE e) := by
                rw [List.getElem?_map, List.getElem?_take, if_pos hil, List.getElem?_drop, he]; rfl
              rw [← sz_of hz hd, ecells_frz, List.length_map]; exact (o8 _ e he).1
            split at hws
            · rename_i hpure
              subst hws
              refine triv rfl (src_of (b := G.β (root k)) (f := o * s') (a := a) (c := c) (by rw [hlen]) ?_ fun i d hd => ⟨sz_of hz hd, fun t x hx => ?_⟩)
              · rw [hlen]
                by_cases hl0 : l = 0
                · exact .inl hl0
                · obtain ⟨f, us, T, hR, e8, hf, o6, o7, o8⟩ := hcells.resolve_left hl0
                  exact .inr (by rw [e8, hf])
              · obtain ⟨e, he, rfl, hil⟩ := hget i d hd
                obtain ⟨f, us, T, hR, e8, hf, o6, o7, o8⟩ := hcells.resolve_left (by omega)
                rw [frzE_pure (List.all_eq_true.1 hpure e (List.mem_of_getElem? he))] at hx
                obtain ⟨u, o11, o12⟩ := (o8 _ e he).2 t x hx
                have hpx : pureC x = true := List.all_eq_true.1 (List.all_eq_true.1 hpure e (List.mem_of_getElem? he)) x (List.mem_of_getElem? hx)
                have hone := pure_one hpx
                refine ⟨u, ?_, hone, ?_⟩
                · rw [block_cell o6, hss he hil, show o * s' + (i * s' + t) = (o + i) * s' + t by rw [Nat.add_mul]; omega]; exact o11
                · cases x <;> first | (simp [pureC] at hpx; done) | (unfold CRep at o12; exact o12.2)
            · subst hws
              obtain ⟨x1, x2⟩ := frz_obj hr hh hno
              refine ⟨G.frz2 k, _, fun _ _ => none, x1, x2, src_of (b := G.β (root k)) (f := o * s') (a := a) (c := c) (by rw [hlen]) ?_ (fun i d hd => ⟨sz_of hz hd, fun t x hx => ?_⟩), fun k' hk' => ?_, fun _ _ _ e => absurd e (by simp), fun _ _ _ _ _ e => absurd e (by simp), fun k' hk' => ?_⟩
              · rw [hlen]
                by_cases hl0 : l = 0
                · exact .inl hl0
                · obtain ⟨f, us, T, hR, e8, hf, o6, o7, o8⟩ := hcells.resolve_left hl0
                  exact .inr (by rw [e8, hf])
              · obtain ⟨e, he, rfl, hil⟩ := hget i d hd
                have hnew : (h.set k (g', Ob.arr s' (ver + 1) fr (es.map frzE)))[k]? = some (g', Ob.arr s' (ver + 1) fr (es.map frzE)) := List.getElem?_set_self (List.getElem?_eq_some_iff.1 hh).1
                have he' : (es.map frzE)[o + i]? = some (frzE e) := by rw [List.getElem?_map, he]; rfl
                obtain ⟨_, us, T, p1, p2, p3, p4⟩ := ob_at x1 hnew he'
                obtain ⟨u, p5, p6⟩ := p4 t x hx
                have hpx : pureC x = true := by
                  rw [ecells_frz, List.getElem?_map] at hx
                  obtain ⟨c0, hc0, rfl⟩ := Option.map_eq_some_iff.1 hx
                  have hnr : (pureC c0 || isU c0) = true := List.all_eq_true.1 (show (ecells e).all (fun c => pureC c || isU c) = true from List.all_eq_true.1 hno e (List.mem_of_getElem? he)) c0 (List.mem_of_getElem? hc0)
                  cases c0 <;> first | rfl | (simp [pureC, isU] at hnr)
                refine ⟨u, ?_, pure_one hpx, ?_⟩
                · rw [block_cell (show w.heap[G.β (root k)]? = _ from p1), hss he hil, show o * s' + (i * s' + t) = (o + i) * s' + t by rw [Nat.add_mul]; omega]; exact p5
                · cases x <;> first | (simp [pureC] at hpx; done) | (unfold CRep at p6; exact p6.2)
              · simp at hk'; exact List.getElem?_set_ne (Ne.symm hk')
              · simp at hk'
                exact ⟨⟨fun x => x.2, fun x => ⟨fun _ => rfl, x⟩⟩, rfl, rfl⟩
          · cases hk
      · cases hk
    · cases hk
  case nown k g ver i j o l =>
    simp only [srcP] at hk
    split at hk
    · rename_i g' s0 ver' fr es hlk
      split at hk
      · rename_i hc
        obtain ⟨rfl, rfl⟩ := hc
        split at hk
        · rename_i e he
          split at hk
          · rename_i ns hns
            split at hk
            · rename_i ho
              obtain ⟨rfl, hl⟩ := ho
              simp only [Option.some.injEq, Prod.mk.injEq] at hk
              obtain ⟨rfl, rfl⟩ := hk
              have hh := lk_some hlk (by simp)
              unfold D at hv; unfold VRep at hv
              obtain ⟨a, c, rfl, q1, q2, q3, gn, ob, q4, q5, q6⟩ := hv
              rw [hh] at q4; cases q4
              obtain ⟨_, q7⟩ := q6 rfl _ _ _ _ rfl
              obtain ⟨ns', hns', q8, q9, q10⟩ := q7 rfl
              rw [cellAt_some he hns] at hns'; cases hns'
              have hlen : (ns.take l).length = l := by simp; omega
              by_cases hl0 : l = 0
              · subst hl0
                exact triv rfl (src_of (b := 0) (f := 0) (a := a) (c := c) (by simp) (.inl (by simp)) fun i d hd => by simp at hd)
              · obtain ⟨hR, us, T, h5, h6, h7, h8⟩ := ob_at hr hh he
                obtain ⟨u0, h9, h10⟩ := h8 j _ hns
                unfold CRep NRep at h10
                have hRn : G.R (nest k i j) := Classical.byContradiction fun hc => by
                  obtain ⟨_, rfl⟩ := h10.2 hc
                  simp at hl; omega
                obtain ⟨us2, T2, ff, cc, _, _, h11, h12, h12', h13, h14, h15, h16⟩ := h10.1 hRn
                obtain ⟨f, rfl, q11⟩ := q9 hRn
                have hf : f = 0 := by
                  rcases q11 with q11 | q11
                  · omega
                  · simpa using q11
                subst hf
                refine triv rfl (src_of (b := G.β (nest k i j)) (f := 0) (c := c) (by rw [hlen]) (.inr rfl) fun a d hd => ⟨sz_of hz hd, fun t x hx => ?_⟩)
                have hal : a < l := by rw [← hlen]; exact (List.getElem?_eq_some_iff.1 hd).1
                have hd' := hd
                rw [List.getElem?_take, if_pos hal] at hd'
                obtain ⟨p1, p2⟩ := h16 a d hd'
                obtain ⟨p3, u, p4, p5⟩ := p2 t x hx
                refine ⟨u, ?_, p3, prep_vrep p3 p5⟩
                rw [block_cell h13, Nat.zero_add, ← sz_of hz hd, p1]; exact p4
            · cases hk
          · cases hk
        · cases hk
      · cases hk
    · cases hk
end
end Go.Proofs.Ytalgbgeocpbadaa.Am
