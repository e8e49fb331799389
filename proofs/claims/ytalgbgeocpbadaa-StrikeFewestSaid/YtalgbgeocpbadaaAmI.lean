/-
  .. slices of the call's own that move into an array; what is frozen.
-/
import Derived.Test.YtalgbgeocpbadaaAmH
namespace Go.Proofs.Ytalgbgeocpbadaa.Am
set_option linter.unusedSimpArgs false
set_option linter.unusedVariables false
set_option linter.unusedSectionVars false
open Go.RowKit
section
variable {P : Program} {B : Nat} {Z0 : Nat → Prop} {G G' : Gh} {h h' : Heap} {w w' : World}
theorem vrep_pure {u : Value} {c : PV} (hp : pureC c = true) (hv : VRep G h w D u c) : PR G.Z w u c := by
  cases c <;> (try (simp [pureC] at hp; done))
  case slc es => exact rep_slc hv
  all_goals (refine ⟨0, ?_⟩; unfold D at hv; unfold VRep at hv; unfold PRep; exact hv)
theorem pure_one {c : PV} (hp : pureC c = true) : one c = true := by cases c <;> simp [pureC] at hp <;> rfl
theorem NRep.ext (x : Ext G h w G' h' w') {key key' : Key} (hk : G'.β key' = G.β key ∧ (G'.R key' ↔ G.R key) ∧ G'.γ key' = G.γ key ∧ G'.σ key' = G.σ key) (hb : G.R key → w'.heap[G.β key]? = w.heap[G.β key]?) {u : Value} {ns : List PV} (hp : NRep G w key u ns) : NRep G' w' key' u ns := by
  unfold NRep at hp ⊢
  obtain ⟨a1, a2, a3, a4⟩ := hk
  rw [a1, a2, a3, a4]
  refine ⟨fun r => ?_, hp.2⟩
  obtain ⟨us, T, f, c, h1, h0, h2, h3, h3', h4, h5, h6, h7⟩ := hp.1 r
  refine ⟨us, T, f, c, h1, h0, h2, h3, h3', by rw [hb r]; exact h4, h5, h6, fun i e he => ?_⟩
  obtain ⟨h8, h9⟩ := h7 i e he
  refine ⟨h8, fun j c hc => ?_⟩
  obtain ⟨h10, v, h11, h12⟩ := h9 j c hc
  exact ⟨h10, v, h11, h12.mono x.zz x.zw⟩
/-- an array that lies in a cell, read as one that nobody writes to -/
theorem nrep_slc {Z' : Nat → Prop} (hz : ∀ b, G.Z b → Z' b) {key : Key} (hk : G.R key → Z' (G.β key)) {u : Value} {ns : List PV} (hp : NRep G w key u ns) : PR Z' w u (.slc ns) := by
  unfold NRep at hp
  by_cases hR : G.R key
  · obtain ⟨us, T, f, c, rfl, h0, h2, h3, h3', h4, h5, h6, h7⟩ := hp.1 hR
    refine PR.slc_iff.2 ⟨_, c, G.σ key, rfl, h2, by omega, fun e => absurd e (by simp), fun i e he => ?_⟩
    obtain ⟨h8, h9⟩ := h7 i e he
    have hi := (List.getElem?_eq_some_iff.1 he).1
    refine ⟨h8, _, _, rfl, hk hR, fun j cc hc => ?_⟩
    obtain ⟨h10, v, h11, h12⟩ := h9 j cc hc
    refine ⟨h10, v, ?_, h12.mono hz fun _ _ => rfl⟩
    rw [block_cell h4]
    rcases h0 with h0 | h0
    · omega
    · rw [h0, Nat.zero_add]; exact h11
  · obtain ⟨rfl, rfl⟩ := hp.2 hR
    exact PR.slc_iff.2 ⟨none, 0, 0, rfl, Nat.le_refl _, Nat.zero_le _, fun _ => rfl, fun i e he => by simp at he⟩
theorem crep_frz {Z' : Nat → Prop} (hz : ∀ b, G.Z b → Z' b) {k i j : Nat} (hk : G.R (nest k i j) → Z' (G.β (nest k i j))) {u : Value} {c : PV} (hn : (pureC c || isU c) = true) (hc : CRep G h w k i j u c) : one (frzC c) = true ∧ PR Z' w u (frzC c) := by
  cases c
  case uslc ns => unfold CRep at hc; exact ⟨rfl, nrep_slc hz hk hc⟩
  all_goals
    unfold CRep at hc
    exact ⟨hc.1, (vrep_pure (by simpa [isU] using hn) hc.2).mono hz fun _ _ => rfl⟩
theorem ecells_frz (e : PV) : ecells (frzE e) = (ecells e).map frzC := by cases e <;> rfl
def Gh.frz1 (G : Gh) (k s : Nat) : Gh := { G with Z := fun b => G.Z b ∨ ∃ ij, G.R (k, some ij) ∧ b = G.β (k, some ij), σ := fun key => if key = root k then s else G.σ key }
/-- the object k is given up -/
theorem kill_one (hr : HRep B Z0 G h w) {k g s ver : Nat} {es : List PV} (hh : h[k]? = some (g, .arr s ver false es)) (hp : es.all noRefE = true) :
    HRep B Z0 (G.frz1 k s) (h.set k (g, .dead)) w ∧ Ext G h w (G.frz1 k s) (h.set k (g, .dead)) w ∧
      ∀ {u : Value} {gl l : Nat}, es.length = gl → l = gl → VRep G h w D u (.own k g gl s 0 l) → NRep (G.frz1 k s) w (root k) u (es.map frzE) := by
  have hk : k < h.length := (List.getElem?_eq_some_iff.1 hh).1
  have hsame : ∀ k' y, k' ≠ k → SameKey G (G.frz1 k s) (k', y) := fun k' y hkk => ⟨rfl, Iff.rfl, rfl, by simp [Gh.frz1, hkk]⟩
  have x : Ext G h w (G.frz1 k s) (h.set k (g, .dead)) w := by
    refine ⟨fun _ y => .inl y, fun _ _ => rfl, fun k' gn ob e => ?_⟩
    by_cases hkk : k' = k
    · subst hkk; rw [hh] at e; cases e
      exact ⟨g, .dead, List.getElem?_set_self hk, Nat.le_refl _, fun _ => Keep.dead _ _⟩
    · exact ⟨gn, ob, by rw [List.getElem?_set_ne (Ne.symm hkk)]; exact e, Nat.le_refl _, fun _ => Keep.refl k' ob (hsame _ _ hkk) fun i j => hsame _ _ hkk⟩
  refine ⟨hr.update k g .dead hk x (fun k' y hkk => .inl (hsame k' y hkk)) (fun _ _ _ _ => rfl) (Nat.le_refl _) ?_ (fun b hb => hb.imp id fun ⟨ij, h1, h2⟩ => h2 ▸ (hr.lv _ h1).1) ?_ ?_ (fun _ _ _ e => by cases e) trivial, x, ?_⟩
  · rintro b (hb | ⟨ij, hR, rfl⟩)
    · exact hr.zb b hb
    · exact (hr.lv _ hR).2
  · rintro k' y hkk hR hn (hb | ⟨ij, hR2, he⟩)
    · exact hn hb
    · exact hkk (congrArg Prod.fst (hr.inj _ _ hR hR2 he))
  · intro y hR
    obtain ⟨b1, b2⟩ := hr.lv (k, y) hR
    refine ⟨b1, b2, fun e => absurd e (by simp [liveOb]), fun y' hR' he => ?_, fun k' y' hkk hR' he => ?_⟩
    · exact congrArg Prod.snd (hr.inj _ _ hR hR' he)
    · exact hkk (congrArg Prod.fst (hr.inj _ _ hR hR' he)).symm
  · intro u gl l h1 h2 hv
    subst h1 h2
    unfold D at hv; unfold VRep at hv
    obtain ⟨a, c, rfl, q1, q2, q3, gn, ob, q4, q5, q6⟩ := hv
    rw [hh] at q4; cases q4
    obtain ⟨_, q7⟩ := q6 rfl _ _ _ _ rfl
    obtain ⟨_, q8, q9⟩ := q7 rfl
    have ho := hr.ob k g _ hh
    unfold ORep at ho
    obtain ⟨o1, o2, o3, o4, o5⟩ := ho
    unfold NRep
    refine ⟨fun hR => ?_, fun hR => ?_⟩
    · obtain ⟨us, T, o6, o7, o8⟩ := o4 hR
      obtain ⟨f, rfl, q10, q11, q12⟩ := q8 hR
      refine ⟨us, T, f, c, by simp [Gh.frz1], ?_, by simpa using q1, ?_, o3, o6, ?_, ?_, fun i e he => ?_⟩
      · rcases q10 with q10 | q10
        · exact .inl q10
        · exact .inr (by simpa using q10 rfl)
      · show c ≤ G.γ (root k); omega
      · simpa [Gh.frz1] using o7
      · simpa [Gh.frz1] using o1
      · rw [List.getElem?_map] at he
        obtain ⟨e0, he0, rfl⟩ := Option.map_eq_some_iff.1 he
        obtain ⟨o9, o10⟩ := o8 i e0 he0
        have hs' : (G.frz1 k s).σ (root k) = s := by simp [Gh.frz1]
        rw [hs', ecells_frz]
        refine ⟨by simpa using o9, fun j cc hc => ?_⟩
        rw [List.getElem?_map] at hc
        obtain ⟨c0, hc0, rfl⟩ := Option.map_eq_some_iff.1 hc
        obtain ⟨v, o11, o12⟩ := o10 j c0 hc0
        have hnr : (pureC c0 || isU c0) = true := List.all_eq_true.1 (show (ecells e0).all (fun c => pureC c || isU c) = true from List.all_eq_true.1 hp e0 (List.mem_of_getElem? he0)) c0 (List.mem_of_getElem? hc0)
        obtain ⟨o13, o14⟩ := crep_frz (Z' := (G.frz1 k s).Z) (fun b hb => .inl hb) (fun hR' => .inr ⟨(i, j), hR', rfl⟩) hnr o12
        exact ⟨o13, v, o11, o14⟩
    · have he := o5 hR
      subst he
      obtain ⟨rfl, _⟩ := q9 hR
      simp at q1
      rcases q3 with ⟨_, rfl⟩ | ⟨b, f, q3⟩
      · exact ⟨rfl, rfl⟩
      · cases q3
/-- a cell of an element that is put into an array; m: the array that moves there -/
def ECell (G : Gh) (h : Heap) (w : World) (m : Option Nat) (u : Value) (d : PV) : Prop :=
  match m with
  | none => one d = true ∧ VRep G h w D u d
  | some k => ∃ ns, d = .uslc ns ∧ NRep G w (root k) u ns
theorem ECell.ext (x : Ext G h w G' h' w') {m : Option Nat} {u : Value} {d : PV} (hk : ∀ k, m = some k → SameKey G G' (root k)) (hb : ∀ k, m = some k → G.R (root k) → w'.heap[G.β (root k)]? = w.heap[G.β (root k)]?) (hc : ECell G h w m u d) : ECell G' h' w' m u d := by
  cases m with
  | none => exact ⟨hc.1, hc.2.ext x⟩
  | some k => obtain ⟨ns, rfl, h1⟩ := hc; exact ⟨ns, rfl, h1.ext x (hk k rfl) (hb k rfl)⟩
theorem upd_append (h : Heap) (a b : List (Nat × Row)) : upd h (a ++ b) = upd (upd h a) b := by simp [upd, List.foldl_append]
theorem upd_length : ∀ (ws : List (Nat × Row)) (h : Heap), (upd h ws).length = h.length
  | [], h => rfl
  | x :: ws, h => by rw [show upd h (x :: ws) = upd (h.set x.1 x.2) ws from rfl, upd_length ws]; simp
theorem upd_other : ∀ (ws : List (Nat × Row)) (h : Heap) (k : Nat), k ∉ ws.map (·.1) → (upd h ws)[k]? = h[k]?
  | [], h, k, _ => rfl
  | x :: ws, h, k, hk => by
    simp only [List.map_cons, List.mem_cons, not_or] at hk
    rw [show upd h (x :: ws) = upd (h.set x.1 x.2) ws from rfl, upd_other ws _ k hk.2, List.getElem?_set_ne (Ne.symm hk.1)]
/-- what the arrays that are given up are, and that all others are as they were -/
structure Killed (G : Gh) (h : Heap) (G' : Gh) (h' : Heap) (ks : List Nat) : Prop where
  same : ∀ k y, k ∉ ks → SameKey G G' (k, y)
  β : G'.β = G.β
  R : G'.R = G.R
  dead : ∀ k, k ∈ ks → ∃ g, h'[k]? = some (g, .dead)
  live : ∀ k, k ∈ ks → ∃ g s ver es, h[k]? = some (g, .arr s ver false es)
  other : ∀ k, k ∉ ks → h'[k]? = h[k]?
  z : ∀ b, G'.Z b → G.Z b ∨ ∃ k, k ∈ ks ∧ ∃ ij, G.R (k, some ij) ∧ b = G.β (k, some ij)
theorem embC_spec (hr : HRep B Z0 G h w) {hide : List Nat} {u : Value} {c d : PV} {ks : List Nat} {h0 : Heap} (hks : ∀ k, k ∈ ks → h[k]? = h0[k]?) (ho : one c = true) (hv : VRep G h w D u c) (hfr : ∀ (k g s ver : Nat) (es : List PV), h0[k]? = some (g, Ob.arr s ver true es) → h[k]? = h0[k]?)
    (hk : embC (lkOf h0 hide) c = some (d, ks)) : ∃ G' m, HRep B Z0 G' (upd h (kill (lkOf h0 hide) ks)) w ∧ Ext G h w G' (upd h (kill (lkOf h0 hide) ks)) w ∧ Killed G h G' (upd h (kill (lkOf h0 hide) ks)) ks ∧
      ECell G' (upd h (kill (lkOf h0 hide) ks)) w m u d ∧ ∀ k, m = some k ↔ k ∈ ks := by
  have triv : ∀ {d}, ks = [] → one d = true → VRep G h w D u d → ∃ G' m, HRep B Z0 G' (upd h (kill (lkOf h0 hide) ks)) w ∧ Ext G h w G' (upd h (kill (lkOf h0 hide) ks)) w ∧ Killed G h G' (upd h (kill (lkOf h0 hide) ks)) ks ∧
      ECell G' (upd h (kill (lkOf h0 hide) ks)) w m u d ∧ ∀ k, m = some k ↔ k ∈ ks := fun {d} e o v => by
    subst e
    exact ⟨G, none, hr, Ext.refl, ⟨fun _ _ _ => SameKey.refl _ _, rfl, rfl, fun _ hm => by simp at hm, fun _ hm => by simp at hm, fun _ _ => rfl, fun _ hb => .inl hb⟩, ⟨o, v⟩, fun k => by simp⟩
  cases c
  case own k g gl s o l =>
    simp only [embC] at hk
    split at hk
    · rename_i g' s' ver fr es hlk
      split at hk
      · rename_i hc
        obtain ⟨rfl, hl, rfl, rfl, rfl, hp⟩ := hc
        have hh0 := lk_some hlk (by simp)
        split at hk
        · rename_i hf
          subst hf
          simp only [Option.some.injEq, Prod.mk.injEq] at hk
          obtain ⟨rfl, rfl⟩ := hk
          have hh : h[k]? = some (g', .arr s' ver true es) := by rw [hfr k _ _ _ _ hh0, hh0]
          refine triv rfl rfl (mk_slc ?_)
          have hz := hr.fz k g' s' ver es hh
          have hob := hr.ob k g' _ hh
          unfold ORep at hob
          obtain ⟨o1, o2, o3, o4, o5⟩ := hob
          unfold D at hv; unfold VRep at hv
          obtain ⟨a, cc, rfl, q1, q2, q3, gn, ob, q4, q5, q6⟩ := hv
          rw [hh] at q4; cases q4
          obtain ⟨_, q7⟩ := q6 rfl _ _ _ _ rfl
          obtain ⟨_, q8, q9⟩ := q7 hl
          by_cases hR : G.R (root k)
          · obtain ⟨us, T, o6, o7, o8⟩ := o4 hR
            obtain ⟨f, rfl, q10, q11, q12⟩ := q8 hR
            refine PR.slc_iff.2 ⟨some ⟨G.β (root k), f, none⟩, cc, s', by simp [hl], by simpa [hl] using q1, q2, fun e => absurd e (by simp), fun i e he => ?_⟩
            rw [List.getElem?_map] at he
            obtain ⟨e0, he0, rfl⟩ := Option.map_eq_some_iff.1 he
            have hi := (List.getElem?_eq_some_iff.1 he0).1
            obtain ⟨o9, o10⟩ := o8 i e0 he0
            rw [ecells_frz]
            refine ⟨by simpa using o9, _, _, rfl, hz none hR, fun j cc' hc => ?_⟩
            rw [List.getElem?_map] at hc
            obtain ⟨c0, hc0, rfl⟩ := Option.map_eq_some_iff.1 hc
            obtain ⟨v, o11, o12⟩ := o10 j c0 hc0
            have hnr : (pureC c0 || isU c0) = true := List.all_eq_true.1 (show (ecells e0).all (fun c => pureC c || isU c) = true from List.all_eq_true.1 hp e0 (List.mem_of_getElem? he0)) c0 (List.mem_of_getElem? hc0)
            obtain ⟨o13, o14⟩ := crep_frz (Z' := G.Z) (fun b hb => hb) (fun hR' => hz _ hR') hnr o12
            refine ⟨o13, v, ?_, o14⟩
            rw [block_cell o6]
            have hf0 : f = 0 := by
              rcases q10 with q10 | q10
              · omega
              · simpa using q10 rfl
            rw [hf0, Nat.zero_add]; exact o11
          · have he := o5 hR
            subst he
            obtain ⟨rfl, _⟩ := q9 hR
            simp at hl
            subst hl
            rcases q3 with ⟨_, rfl⟩ | ⟨b, f, q3⟩
            · exact PR.slc_iff.2 ⟨none, 0, 0, rfl, Nat.le_refl _, Nat.zero_le _, fun _ => rfl, fun i e he => by simp at he⟩
            · cases q3
        · rename_i hf
          have hf : fr = false := by simpa using hf
          subst hf
          simp only [Option.some.injEq, Prod.mk.injEq] at hk
          obtain ⟨rfl, rfl⟩ := hk
          have hh : h[k]? = some (g', .arr s' ver false es) := by rw [hks k (by simp), hh0]
          obtain ⟨a1, a2, a3⟩ := kill_one hr hh hp
          have hu : upd h (kill (lkOf h0 hide) [k]) = h.set k (g', .dead) := by simp [upd, kill, hlk]
          rw [hu]
          refine ⟨_, some k, a1, a2, ⟨fun k' y hkk => ?_, rfl, rfl, fun k' hm => ?_, fun k' hm => ?_, fun k' hm => ?_, fun b hb => ?_⟩, ⟨_, rfl, a3 hl (by omega) hv⟩, fun k' => by simp; exact eq_comm⟩
          · simp at hkk; exact ⟨rfl, Iff.rfl, rfl, by simp [Gh.frz1, hkk]⟩
          · simp at hm; subst hm; exact ⟨g', List.getElem?_set_self (List.getElem?_eq_some_iff.1 hh).1⟩
          · simp at hm; subst hm; exact ⟨_, _, _, _, hh⟩
          · simp at hm; exact List.getElem?_set_ne (Ne.symm hm)
          · exact hb.imp id fun ⟨ij, h1, h2⟩ => ⟨k, by simp, ij, h1, h2⟩
      · cases hk
    · cases hk
  case nils =>
    simp only [embC, Option.some.injEq, Prod.mk.injEq] at hk
    obtain ⟨rfl, rfl⟩ := hk
    obtain rfl := rep_nils hv
    exact triv rfl rfl (mk_slc (PR.slc_iff.2 ⟨none, 0, 0, rfl, Nat.le_refl _, Nat.zero_le _, fun _ => rfl, fun i e he => by simp at he⟩))
  all_goals
    simp only [embC] at hk
    first
      | (cases hk; done)
      | (simp only [Option.some.injEq, Prod.mk.injEq] at hk
         obtain ⟨rfl, rfl⟩ := hk
         exact triv rfl ho hv)
theorem Killed.trans {G1 G2 : Gh} {h0 h1 h2 : Heap} {ls ks : List Nat} (a : Killed G h0 G1 h1 ls) (b : Killed G1 h1 G2 h2 ks) (hd : ∀ k, k ∈ ks → k ∉ ls) : Killed G h0 G2 h2 (ls ++ ks) := by
  refine ⟨fun k y hk => ?_, b.β.trans a.β, b.R.trans a.R, fun k hk => ?_, fun k hk => ?_, fun k hk => ?_, fun x hx => ?_⟩
  · simp only [List.mem_append, not_or] at hk
    exact (a.same k y hk.1).trans (b.same k y hk.2)
  · by_cases h1 : k ∈ ks
    · exact b.dead k h1
    · obtain ⟨g, hg⟩ := a.dead k ((List.mem_append.1 hk).resolve_right h1)
      exact ⟨g, (b.other k h1).trans hg⟩
  · by_cases h1 : k ∈ ls
    · exact a.live k h1
    · obtain ⟨g, s, ver, es, hg⟩ := b.live k ((List.mem_append.1 hk).resolve_left h1)
      exact ⟨g, s, ver, es, (a.other k h1).symm.trans hg⟩
  · simp only [List.mem_append, not_or] at hk
    exact (b.other k hk.2).trans (a.other k hk.1)
  · rcases b.z x hx with h1 | ⟨k, h1, ij, h2, h3⟩
    · rcases a.z x h1 with h1 | ⟨k, h1, ij, h2, h3⟩
      · exact .inl h1
      · exact .inr ⟨k, by simp [h1], ij, h2, h3⟩
    · rw [a.R] at h2; rw [a.β] at h3; exact .inr ⟨k, by simp [h1], ij, h2, h3⟩
theorem kill_append (lk : Look) (a b : List Nat) : kill lk (a ++ b) = kill lk a ++ kill lk b := by simp [kill]
/-- cells that are put into an array, one after the other -/
theorem embCs_spec {hide : List Nat} : ∀ {cs : List PV} {ds : List PV} {ks : List Nat} {val : Nat → Value} {G : Gh} {h : Heap} {h0 : Heap}, HRep B Z0 G h w → (∀ k, k ∈ ks → h[k]? = h0[k]?) →
    (∀ (k g s ver : Nat) (es : List PV), h0[k]? = some (g, Ob.arr s ver true es) → h[k]? = h0[k]?) → (∀ (t : Nat) c, cs[t]? = some c → one c = true ∧ VRep G h w D (val t) c) →
    embCs (lkOf h0 hide) cs = some (ds, ks) → ∃ (G' : Gh) (mk : Nat → Option Nat), HRep B Z0 G' (upd h (kill (lkOf h0 hide) ks)) w ∧ Ext G h w G' (upd h (kill (lkOf h0 hide) ks)) w ∧ Killed G h G' (upd h (kill (lkOf h0 hide) ks)) ks ∧ ds.length = cs.length ∧
      (∀ (t : Nat) d, ds[t]? = some d → ECell G' (upd h (kill (lkOf h0 hide) ks)) w (mk t) (val t) d) ∧ (∀ t k, mk t = some k → k ∈ ks ∧ t < ds.length) ∧ (∀ t t' k, mk t = some k → mk t' = some k → t = t')
  | [], ds, ks, val, G, h, h0, hr, _, _, _, hk => by
    simp [embCs] at hk
    obtain ⟨rfl, rfl⟩ := hk
    exact ⟨G, fun _ => none, hr, Ext.refl, ⟨fun _ _ _ => SameKey.refl _ _, rfl, rfl, fun _ hm => by simp at hm, fun _ hm => by simp at hm, fun _ _ => rfl, fun _ hb => .inl hb⟩, rfl, fun t d hd => by simp at hd, fun _ _ e => absurd e (by simp), fun _ _ _ e => absurd e (by simp)⟩
  | c :: cs, ds, ks, val, G, h, h0, hr, hks, hfr, hv, hk => by
    simp only [embCs] at hk
    split at hk
    · rename_i d ks0 ds' ls hc hcs
      split at hk
      · rename_i hdis
        simp only [Option.some.injEq, Prod.mk.injEq] at hk
        obtain ⟨rfl, rfl⟩ := hk
        have hdis' : ∀ k, k ∈ ks0 → k ∉ ls := fun k hk1 hk2 => by
          have := List.all_eq_true.1 hdis k hk1
          simp at this; exact this hk2
        obtain ⟨G1, mk1, a1, a2, a3, a4, a5, a6, a7⟩ := embCs_spec (val := fun t => val (t + 1)) hr (fun k hk => hks k (by simp [hk])) hfr (fun t c hc => hv (t + 1) c (by simpa using hc)) hcs
        obtain ⟨v1, v2⟩ := hv 0 c rfl
        obtain ⟨G2, m, b1, b2, b3, b4, b5⟩ := embC_spec a1 (fun k hk => (a3.other k (hdis' k hk)).trans (hks k (by simp [hk]))) v1 (v2.ext a2) (fun k g s ver es he => by
          refine (a3.other k fun hm => ?_).trans (hfr k g s ver es he)
          obtain ⟨g', s', v', es', e'⟩ := a3.live k hm
          rw [hfr k g s ver es he, he] at e'
          cases e') hc
        rw [kill_append, upd_append]
        refine ⟨G2, fun t => match t with | 0 => m | t + 1 => mk1 t, b1, a2.trans b2, a3.trans b3 hdis', by simp [a4], fun t d' hd => ?_, fun t k he => ?_, fun t t' k he he' => ?_⟩
        · cases t with
          | zero => simp at hd; subst hd; exact b4
          | succ t =>
            refine (a5 t d' (by simpa using hd)).ext b2 (fun k hm => ?_) (fun k hm _ => rfl)
            exact b3.same k none fun hk1 => hdis' k hk1 (a6 t k hm).1
        · cases t with
          | zero => exact ⟨by simp [(b5 k).1 he], by simp⟩
          | succ t => obtain ⟨q1, q2⟩ := a6 t k he; exact ⟨by simp [q1], by simpa using q2⟩
        · cases t with
          | zero => cases t' with
            | zero => rfl
            | succ t' => exact absurd (a6 t' k he').1 (hdis' k ((b5 k).1 he))
          | succ t => cases t' with
            | zero => exact absurd (a6 t k he).1 (hdis' k ((b5 k).1 he'))
            | succ t' => rw [a7 t t' k he he']
      · cases hk
    · cases hk
theorem ecell_single {m : Option Nat} {u : Value} {d : PV} (hc : ECell G h w m u d) : ecells d = [d] := by
  cases m with
  | none => have := hc.1; cases d <;> first | rfl | (simp [one] at this)
  | some k => obtain ⟨ns, rfl, _⟩ := hc; rfl
theorem ecells_reE {e : PV} {ds : List PV} {mk : Nat → Option Nat} {val : Nat → Value} (hl : ds.length = (ecells e).length) (hd : ∀ (t : Nat) d, ds[t]? = some d → ECell G h w (mk t) (val t) d) : ecells (reE e ds) = ds := by
  cases e
  case agg => rfl
  all_goals
    match ds, hl, hd with
    | [d], _, hd => exact ecell_single (hd 0 d rfl)
    | [], hl, _ => simp [ecells] at hl
    | _ :: _ :: _, hl, _ => simp [ecells] at hl
/-- elements that are put into an array, one after the other -/
theorem embEs_spec {hide : List Nat} : ∀ {es : List PV} {ds : List PV} {ks : List Nat} {val : Nat → Nat → Value} {G : Gh} {h : Heap} {h0 : Heap}, HRep B Z0 G h w → (∀ k, k ∈ ks → h[k]? = h0[k]?) →
    (∀ (k g s ver : Nat) (es : List PV), h0[k]? = some (g, Ob.arr s ver true es) → h[k]? = h0[k]?) → (∀ (i : Nat) e, es[i]? = some e → ∀ (t : Nat) c, (ecells e)[t]? = some c → one c = true ∧ VRep G h w D (val i t) c) →
    embEs (lkOf h0 hide) es = some (ds, ks) → ∃ (G' : Gh) (mk : Nat → Nat → Option Nat), HRep B Z0 G' (upd h (kill (lkOf h0 hide) ks)) w ∧ Ext G h w G' (upd h (kill (lkOf h0 hide) ks)) w ∧ Killed G h G' (upd h (kill (lkOf h0 hide) ks)) ks ∧ ds.length = es.length ∧
      (∀ (i : Nat) d e, ds[i]? = some d → es[i]? = some e → (ecells d).length = (ecells e).length ∧ ∀ (t : Nat) c, (ecells d)[t]? = some c → ECell G' (upd h (kill (lkOf h0 hide) ks)) w (mk i t) (val i t) c) ∧
      (∀ i t k, mk i t = some k → k ∈ ks ∧ i < ds.length) ∧ (∀ i t i' t' k, mk i t = some k → mk i' t' = some k → i = i' ∧ t = t')
  | [], ds, ks, val, G, h, h0, hr, _, _, _, hk => by
    simp [embEs] at hk
    obtain ⟨rfl, rfl⟩ := hk
    exact ⟨G, fun _ _ => none, hr, Ext.refl, ⟨fun _ _ _ => SameKey.refl _ _, rfl, rfl, fun _ hm => by simp at hm, fun _ hm => by simp at hm, fun _ _ => rfl, fun _ hb => .inl hb⟩, rfl, fun t d e hd => by simp at hd, fun _ _ _ e => absurd e (by simp), fun _ _ _ _ _ e => absurd e (by simp)⟩
  | e :: es, ds, ks, val, G, h, h0, hr, hks, hfr, hv, hk => by
    simp only [embEs] at hk
    split at hk
    · rename_i d ks0 ds' ls hc hcs
      split at hk
      · rename_i hdis
        simp only [Option.some.injEq, Prod.mk.injEq] at hk
        obtain ⟨rfl, rfl⟩ := hk
        have hdis' : ∀ k, k ∈ ks0 → k ∉ ls := fun k hk1 hk2 => by
          have := List.all_eq_true.1 hdis k hk1
          simp at this; exact this hk2
        obtain ⟨G1, mk1, a1, a2, a3, a4, a5, a6, a7⟩ := embEs_spec (val := fun i => val (i + 1)) hr (fun k hk => hks k (by simp [hk])) hfr (fun t c hc => hv (t + 1) c (by simpa using hc)) hcs
        unfold embE at hc
        split at hc
        · rename_i dd kk hcc
          simp only [Option.some.injEq, Prod.mk.injEq] at hc
          obtain ⟨rfl, rfl⟩ := hc
          obtain ⟨G2, mk2, b1, b2, b3, b4, b5, b6, b7⟩ := embCs_spec (val := val 0) a1 (fun k hk => (a3.other k (hdis' k hk)).trans (hks k (by simp [hk]))) (fun k g s ver es he => by
            refine (a3.other k fun hm => ?_).trans (hfr k g s ver es he)
            obtain ⟨g', s', v', es', e'⟩ := a3.live k hm
            rw [hfr k g s ver es he, he] at e'
            cases e') (fun t c hc => by obtain ⟨v1, v2⟩ := hv 0 e rfl t c hc; exact ⟨v1, v2.ext a2⟩) hcc
          have hre := ecells_reE b4 b5
          rw [kill_append, upd_append]
          refine ⟨G2, fun i t => match i with | 0 => mk2 t | i + 1 => mk1 i t, b1, a2.trans b2, a3.trans b3 hdis', by simp [a4], fun i d' e' hd he => ?_, fun i t k he => ?_, fun i t i' t' k he he' => ?_⟩
          · cases i with
            | zero =>
              simp at hd he; subst hd; subst he
              rw [hre]
              exact ⟨b4, b5⟩
            | succ i =>
              obtain ⟨q1, q2⟩ := a5 i d' e' (by simpa using hd) (by simpa using he)
              refine ⟨q1, fun t c hc => (q2 t c hc).ext b2 (fun k hm => ?_) (fun k hm _ => rfl)⟩
              exact b3.same k none fun hk1 => hdis' k hk1 (a6 i t k hm).1
          · cases i with
            | zero => exact ⟨by simp [(b6 t k he).1], by simp⟩
            | succ i => obtain ⟨q1, q2⟩ := a6 i t k he; exact ⟨by simp [q1], by simpa using q2⟩
          · cases i with
            | zero => cases i' with
              | zero => exact ⟨rfl, b7 t t' k he he'⟩
              | succ i' => exact absurd (a6 i' t' k he').1 (hdis' k (b6 t k he).1)
            | succ i => cases i' with
              | zero => exact absurd (a6 i t k he).1 (hdis' k (b6 t' k he').1)
              | succ i' => obtain ⟨q1, q2⟩ := a7 i t i' t' k he he'; exact ⟨by rw [q1], q2⟩
        · cases hc
      · cases hk
    · cases hk
theorem killed_nz (hr : HRep B Z0 G h w) {ks : List Nat} (hK : Killed G h G' h' ks) {k : Nat} (hk : k ∈ ks) (hR : G.R (root k)) : ¬ G'.Z (G'.β (root k)) := by
  intro hz
  rw [hK.β] at hz
  obtain ⟨g, s, ver, es, hg⟩ := hK.live k hk
  rcases hK.z _ hz with h1 | ⟨k', _, ij, h2, h3⟩
  · exact hr.nz k g _ hg rfl none hR h1
  · have := hr.inj _ _ hR h2 h3
    simp at this
end
end Go.Proofs.Ytalgbgeocpbadaa.Am
