/-
  .. an array is written to.
-/
import Derived.Test.YtalgbgeocpbadaaAmI
namespace Go.Proofs.Ytalgbgeocpbadaa.Am
set_option linter.unusedSimpArgs false
set_option linter.unusedVariables false
set_option linter.unusedSectionVars false
open Go.RowKit
def moved (mk : Nat → Nat → Option Nat) (k : Nat) : Prop := ∃ i j, mk i j = some k
/-- where a key's block was known before -/
def srcKey (k : Nat) (mk : Nat → Nat → Option Nat) : Key → Key
  | (k', some (i, j)) => if k' = k then (match mk i j with | some k2 => root k2 | none => (k', some (i, j))) else (k', some (i, j))
  | (k', none) => (k', none)
def Gh.mv (G : Gh) (k b γ0 : Nat) (mk : Nat → Nat → Option Nat) : Gh :=
  { β := fun key => if key = root k then b else G.β (srcKey k mk key)
    R := fun key => if key = root k then True else (key.2 = none → ¬ moved mk key.1) ∧ G.R (srcKey k mk key)
    γ := fun key => if key = root k then γ0 else G.γ (srcKey k mk key)
    σ := fun key => G.σ (srcKey k mk key)
    Z := G.Z }
section
variable {P : Program} {B : Nat} {Z0 : Nat → Prop} {G G' : Gh} {h h' : Heap} {w w' : World}
theorem src_other {k k' : Nat} {mk : Nat → Nat → Option Nat} {y : Option (Nat × Nat)} (hk : k' ≠ k) : srcKey k mk (k', y) = (k', y) := by
  cases y with
  | none => rfl
  | some ij => obtain ⟨i, j⟩ := ij; simp [srcKey, hk]
theorem src_none {k i j : Nat} {mk : Nat → Nat → Option Nat} (hm : mk i j = none) : srcKey k mk (nest k i j) = nest k i j := by simp [srcKey, hm]
theorem src_some {k k2 i j : Nat} {mk : Nat → Nat → Option Nat} (hm : mk i j = some k2) : srcKey k mk (nest k i j) = root k2 := by simp [srcKey, hm]
theorem mv_other {k b γ0 k' : Nat} {mk : Nat → Nat → Option Nat} {y : Option (Nat × Nat)} (hk : k' ≠ k) (hm : y = none → ¬ moved mk k') : SameKey G (G.mv k b γ0 mk) (k', y) := by
  have hne : ((k', y) : Key) ≠ root k := fun e => hk (congrArg Prod.fst e)
  refine ⟨?_, ?_, ?_, ?_⟩
  · simp only [Gh.mv, if_neg hne, src_other hk]
  · simp only [Gh.mv, if_neg hne, src_other hk]; exact ⟨fun x => x.2, fun x => ⟨hm, x⟩⟩
  · simp only [Gh.mv, if_neg hne, src_other hk]
  · simp only [Gh.mv, src_other hk]
theorem mv_nest {k b γ0 i j : Nat} {mk : Nat → Nat → Option Nat} (hm : mk i j = none) : SameKey G (G.mv k b γ0 mk) (nest k i j) := by
  have hne : (nest k i j : Key) ≠ root k := fun e => by simp at e
  refine ⟨?_, ?_, ?_, ?_⟩ <;> simp only [Gh.mv, if_neg hne, src_none hm]
  exact ⟨fun x => x.2, fun x => ⟨fun e => by simp at e, x⟩⟩
theorem mv_moved {k b γ0 i j k2 : Nat} {mk : Nat → Nat → Option Nat} (hm : mk i j = some k2) : (G.mv k b γ0 mk).β (nest k i j) = G.β (root k2) ∧ ((G.mv k b γ0 mk).R (nest k i j) ↔ G.R (root k2)) ∧ (G.mv k b γ0 mk).γ (nest k i j) = G.γ (root k2) ∧ (G.mv k b γ0 mk).σ (nest k i j) = G.σ (root k2) := by
  have hne : (nest k i j : Key) ≠ root k := fun e => by simp at e
  refine ⟨?_, ?_, ?_, ?_⟩ <;> simp only [Gh.mv, if_neg hne, src_some hm]
  exact ⟨fun x => x.2, fun x => ⟨fun e => by simp at e, x⟩⟩
/-- a cell as it was, or an array that moves there -/
def CellOr (G : Gh) (h : Heap) (w : World) (k i j : Nat) (m : Option Nat) (u : Value) (c : PV) : Prop :=
  match m with
  | some k2 => ∃ ns, c = .uslc ns ∧ NRep G w (root k2) u ns
  | none => CRep G h w k i j u c
/-- WHAT AN ARRAY HOLDS IS CHANGED: in place, or in a new block; arrays that were given up may have moved into it -/
theorem dest_update (hr : HRep B Z0 G h w) {k g s ver ver' γ0 b : Nat} {es es' : List PV} {us' : Array Value} {T : TypeId} {mk : Nat → Nat → Option Nat} (hh : h[k]? = some (g, .arr s ver false es))
    (hwhere : (G.R (root k) ∧ b = G.β (root k) ∧ γ0 = G.γ (root k)) ∨ (b = w.heap.size ∧ es.length < es'.length))
    (hnew : w'.heap[b]? = some (.cells us' T (0, 0))) (hold : ∀ x, x < w.heap.size → x ≠ b → w'.heap[x]? = w.heap[x]?) (hsz : w.heap.size ≤ w'.heap.size)
    (hm1 : ∀ i j k2, mk i j = some k2 → k2 ≠ k ∧ (∃ g2, h[k2]? = some (g2, .dead)) ∧ (G.R (root k2) → ¬ G.Z (G.β (root k2)))) (hm2 : ∀ i j i' j' k2, mk i j = some k2 → mk i' j' = some k2 → i = i' ∧ j = j')
    (c1 : us'.size = γ0 * s) (c2 : es'.length ≤ γ0) (c3 : γ0 ≤ maxLen) (c4 : es.length ≤ es'.length) (c5 : ver ≤ ver')
    (c6 : ver' = ver → ∀ i j ns, cellAt es i j = some (.uslc ns) → ∃ ns', cellAt es' i j = some (.uslc ns') ∧ ns.length = ns'.length ∧ mk i j = none)
    (he : ∀ (i : Nat) e, es'[i]? = some e → (ecells e).length = s ∧ ∀ (j : Nat) c, (ecells e)[j]? = some c → ∃ u, us'[i * s + j]? = some u ∧ CellOr G h w k i j (mk i j) u c) :
    HRep B Z0 (G.mv k b γ0 mk) (h.set k (g, .arr s ver' false es')) w' ∧ Ext G h w (G.mv k b γ0 mk) (h.set k (g, .arr s ver' false es')) w' := by
  have hk : k < h.length := (List.getElem?_eq_some_iff.1 hh).1
  have hob := hr.ob k g _ hh
  unfold ORep at hob
  obtain ⟨o1, o2, o3, o4, o5⟩ := hob
  have hbz : ¬ G.Z b := by
    rcases hwhere with ⟨h1, rfl, _⟩ | ⟨rfl, _⟩
    · exact hr.nz k g _ hh rfl none h1
    · intro hz; have := (hr.zb _ hz).lt; omega
  have hbB : B ≤ b := by
    rcases hwhere with ⟨h1, rfl, _⟩ | ⟨rfl, _⟩
    · exact (hr.lv _ h1).1
    · exact hr.base
  have hbne : ∀ key, key ≠ root k → G.R key → G.β key ≠ b := fun key hne hR e => by
    rcases hwhere with ⟨h1, rfl, _⟩ | ⟨rfl, _⟩
    · exact hne (hr.inj _ _ hR h1 e)
    · have := (hr.lv _ hR).2.lt; omega
  have hbsame : ∀ key, key ≠ root k → G.R key → w'.heap[G.β key]? = w.heap[G.β key]? := fun key hne hR => hold _ (hr.lv _ hR).2.lt (hbne key hne hR)
  have hnm : ¬ moved mk k := fun ⟨i, j, hm⟩ => (hm1 i j k hm).1 rfl
  have hsame : ∀ k' y, k' ≠ k → SameOr G (G.mv k b γ0 mk) h k' y := fun k' y hkk => by
    by_cases hmv : y = none ∧ moved mk k'
    · obtain ⟨rfl, i, j, hm⟩ := hmv
      refine .inr ⟨fun hR => ?_, fun g' o' e => ?_⟩
      · have hne : ((k', none) : Key) ≠ root k := fun e => hkk (congrArg Prod.fst e)
        simp only [Gh.mv, if_neg hne] at hR
        exact hR.1 trivial ⟨i, j, hm⟩
      · obtain ⟨g2, h2⟩ := (hm1 i j k' hm).2.1
        rw [h2] at e; cases e; rfl
    · exact .inl (mv_other hkk fun e hm => hmv ⟨e, hm⟩)
  have x : Ext G h w (G.mv k b γ0 mk) (h.set k (g, .arr s ver' false es')) w' := by
    refine ⟨fun _ y => y, fun x hx => hold x (hr.zb x hx).lt fun e => hbz (e ▸ hx), fun k' gn ob e => ?_⟩
    by_cases hkk : k' = k
    · subst hkk; rw [hh] at e; cases e
      refine ⟨g, _, List.getElem?_set_self hk, Nat.le_refl _, fun _ => ⟨fun sz' v' fr' e' he' => ?_, fun cs' e' => by cases e'⟩⟩
      cases he'
      refine ⟨ver, false, es, rfl, c4, c5, fun hl => ?_, fun hv i j ns hc => ?_⟩
      · rcases hwhere with ⟨h1, rfl, rfl⟩ | ⟨_, hlt⟩
        · refine ⟨by simp [Gh.mv], by simp [Gh.mv, h1], by simp [Gh.mv], by simp [Gh.mv, srcKey]⟩
        · omega
      · obtain ⟨ns', q1, q2, q3⟩ := c6 hv i j ns hc
        exact ⟨ns', q1, q2, mv_nest q3⟩
    · refine ⟨gn, ob, by rw [List.getElem?_set_ne (Ne.symm hkk)]; exact e, Nat.le_refl _, fun _ => ?_⟩
      by_cases hd : ob = .dead
      · subst hd; exact Keep.dead _ _
      · exact Keep.refl k' ob ((hsame k' none hkk).resolve_right fun y => hd (y.2 gn ob e)) fun i j => mv_other hkk fun e => by cases e
  refine ⟨hr.update k g _ hk x hsame (fun k' y hkk hR => hbsame _ (fun e => hkk (congrArg Prod.fst e)) hR) hsz (fun b' hb' => (hr.zb b' hb').eq (x.zw b' hb')) (fun b hb => .inl hb) (fun _ _ _ _ hn => hn) ?_ (fun _ _ _ e => by cases e) ?_, x⟩
  · intro y hR
    cases y with
    | none =>
      have hβ : (G.mv k b γ0 mk).β (k, none) = b := by simp [Gh.mv]
      rw [hβ]
      refine ⟨hbB, ⟨_, _, _, hnew⟩, fun _ => hbz, fun y' hR' e => ?_, fun k' y' hkk hR' e => ?_⟩
      · cases y' with
        | none => rfl
        | some ij =>
          obtain ⟨i, j⟩ := ij
          exfalso
          have hne : (nest k i j : Key) ≠ root k := fun e => by simp at e
          simp only [Gh.mv, if_neg hne] at hR' e
          refine hbne _ (fun e2 => ?_) hR'.2 e.symm
          cases hmm : mk i j with
          | none => rw [src_none hmm] at e2; exact hne e2
          | some k2 => rw [src_some hmm] at e2; exact (hm1 i j k2 hmm).1 (congrArg Prod.fst e2)
      · have hne : ((k', y') : Key) ≠ root k := fun e => hkk (congrArg Prod.fst e)
        simp only [Gh.mv, if_neg hne, src_other hkk] at hR' e
        exact hbne _ hne hR'.2 e.symm
    | some ij =>
      obtain ⟨i, j⟩ := ij
      have hne : (nest k i j : Key) ≠ root k := fun e => by simp at e
      have hβ : (G.mv k b γ0 mk).β (nest k i j) = G.β (srcKey k mk (nest k i j)) := by simp [Gh.mv]
      simp only [Gh.mv, if_neg hne] at hR
      obtain ⟨_, hR⟩ := hR
      have hsne : srcKey k mk (nest k i j) ≠ root k := fun e2 => by
        cases hmm : mk i j with
        | none => rw [src_none hmm] at e2; exact hne e2
        | some k2 => rw [src_some hmm] at e2; exact (hm1 i j k2 hmm).1 (congrArg Prod.fst e2)
      show B ≤ (G.mv k b γ0 mk).β (nest k i j) ∧ _
      rw [hβ]
      obtain ⟨l1, l2⟩ := hr.lv _ hR
      refine ⟨l1, l2.eq (hbsame _ hsne hR), fun _ => ?_, fun y' hR' e => ?_, fun k' y' hkk hR' e => ?_⟩
      · show ¬ G.Z _
        cases hmm : mk i j with
        | none => rw [src_none hmm] at hR ⊢; exact hr.nz k g _ hh rfl _ hR
        | some k2 => rw [src_some hmm] at hR ⊢; exact (hm1 i j k2 hmm).2.2 hR
      · cases y' with
        | none =>
          exfalso
          have : (G.mv k b γ0 mk).β (k, none) = b := by simp [Gh.mv]
          rw [this] at e
          exact hbne _ hsne hR e
        | some ij' =>
          obtain ⟨i', j'⟩ := ij'
          have hne' : (nest k i' j' : Key) ≠ root k := fun e => by simp at e
          have hβ' : (G.mv k b γ0 mk).β (nest k i' j') = G.β (srcKey k mk (nest k i' j')) := by simp [Gh.mv]
          simp only [Gh.mv, if_neg hne'] at hR'
          have e' := hr.inj _ _ hR hR'.2 (e.trans hβ')
          cases hmm : mk i j with
          | none =>
            rw [src_none hmm] at e'
            cases hmm' : mk i' j' with
            | none => rw [src_none hmm'] at e'; exact congrArg Prod.snd e'
            | some k2 => rw [src_some hmm'] at e'; simp at e'
          | some k2 =>
            rw [src_some hmm] at e'
            cases hmm' : mk i' j' with
            | none => rw [src_none hmm'] at e'; simp at e'
            | some k3 =>
              rw [src_some hmm'] at e'
              have : k2 = k3 := congrArg Prod.fst e'
              subst this
              obtain ⟨rfl, rfl⟩ := hm2 i j i' j' k2 hmm hmm'
              rfl
      · have hne' : ((k', y') : Key) ≠ root k := fun e => hkk (congrArg Prod.fst e)
        simp only [Gh.mv, if_neg hne', src_other hkk] at hR' e
        have e' := hr.inj _ _ hR hR'.2 (by simpa using e)
        cases hmm : mk i j with
        | none => rw [src_none hmm] at e'; exact hkk (congrArg Prod.fst e').symm
        | some k2 =>
          rw [src_some hmm] at e'
          have h1 : k2 = k' := congrArg Prod.fst e'
          have h2 : none = y' := congrArg Prod.snd e'
          subst h1
          exact hR'.1 h2.symm ⟨i, j, hmm⟩
  · unfold ORep
    have hβ : (G.mv k b γ0 mk).β (root k) = b := by simp [Gh.mv]
    have hγ : (G.mv k b γ0 mk).γ (root k) = γ0 := by simp [Gh.mv]
    have hRr : (G.mv k b γ0 mk).R (root k) := by simp [Gh.mv]
    rw [hβ, hγ]
    refine ⟨o1, c2, c3, fun _ => ⟨us', T, hnew, c1, fun i e hie => ?_⟩, fun hn => absurd hRr hn⟩
    obtain ⟨q1, q2⟩ := he i e hie
    refine ⟨q1, fun j c hc => ?_⟩
    obtain ⟨u, q3, q4⟩ := q2 j c hc
    refine ⟨u, q3, ?_⟩
    cases hmm : mk i j with
    | none =>
      rw [hmm] at q4
      exact CRep.ext x (mv_nest hmm) (fun hR => hbsame _ (fun e => by simp at e) hR) q4
    | some k2 =>
      rw [hmm] at q4
      obtain ⟨ns, rfl, q5⟩ := q4
      unfold CRep
      exact q5.ext x (mv_moved hmm) fun hR => hbsame _ (fun e => (hm1 i j k2 hmm).1 (congrArg Prod.fst e)) hR
end
end Go.Proofs.Ytalgbgeocpbadaa.Am
