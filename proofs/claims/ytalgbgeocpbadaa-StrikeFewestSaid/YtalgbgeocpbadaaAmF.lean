/-
  .. parts of values, and what is read out of memory.
-/
import Derived.Test.YtalgbgeocpbadaaAmE
namespace Go.Proofs.Ytalgbgeocpbadaa.Am
set_option linter.unusedSimpArgs false
set_option linter.unusedVariables false
set_option linter.unusedSectionVars false
open Go.RowKit
theorem lk_some {h : Heap} {hide : List Nat} {k g : Nat} {ob : Ob} (hk : lkOf h hide k = (g, ob)) (hd : ob ≠ .dead) : h[k]? = some (g, ob) := by
  unfold lkOf at hk
  split at hk
  · simp only [Prod.mk.injEq] at hk; exact absurd hk.2.symm hd
  · rw [List.getD_eq_getElem?_getD] at hk
    cases hh : h[k]? with
    | none => rw [hh] at hk; simp only [Option.getD_none, Prod.mk.injEq] at hk; exact absurd hk.2.symm hd
    | some r => rw [hh] at hk; simp only [Option.getD_some] at hk; rw [hk]
theorem ldCs_get (k g ver i : Nat) : ∀ (cs : List PV) (j t : Nat), (ldCs k g ver i j cs)[t]? = (cs[t]?).map (ldC k g ver i (j + t))
  | [], j, t => by simp [ldCs]
  | c :: cs, j, 0 => by simp [ldCs]
  | c :: cs, j, t + 1 => by simp [ldCs, ldCs_get k g ver i cs (j + 1) t]; rw [show j + (t + 1) = j + 1 + t by omega]
theorem ldCs_length (k g ver i : Nat) : ∀ (cs : List PV) (j : Nat), (ldCs k g ver i j cs).length = cs.length
  | [], j => by simp [ldCs]
  | c :: cs, j => by simp [ldCs, ldCs_length k g ver i cs (j + 1)]
section
variable {P : Program} {B : Nat} {Z0 : Nat → Prop} {G : Gh} {h : Heap} {w : World}
theorem block_cell {b i : Nat} {us : Array Value} {T : TypeId} (hb : w.heap[b]? = some (.cells us T (0, 0))) : w.cell? ⟨b, i, none⟩ = us[i]? := by
  unfold World.cell?; simp only [hb]; rfl
theorem crep_ld {k g sz ver i j : Nat} {fr : Bool} {es : List PV} {u : Value} {c : PV} (hh : h[k]? = some (g, .arr sz ver fr es)) (hcell : cellAt es i j = some c) (hc : CRep G h w k i j u c) : VRep G h w D u (ldC k g ver i j c) ∧ one (ldC k g ver i j c) = true := by
  cases c
  case uslc ns =>
    unfold CRep NRep at hc
    refine ⟨?_, rfl⟩
    simp only [ldC]
    unfold D; unfold VRep
    by_cases hR : G.R (nest k i j)
    · obtain ⟨us, T, f, cc, rfl, h0, h2, h3, h3', h4, h5, h6, h7⟩ := hc.1 hR
      refine ⟨_, _, rfl, h2, by omega, .inr ⟨_, _, rfl⟩, g, _, hh, Nat.le_refl _, fun _ sz' vr fr' es' e => ?_⟩
      cases e
      refine ⟨Nat.le_refl _, fun _ => ⟨ns, hcell, by omega, fun _ => ⟨_, rfl, ?_⟩, fun x => absurd hR x⟩⟩
      simpa using h0
    · obtain ⟨rfl, rfl⟩ := hc.2 hR
      refine ⟨_, _, rfl, Nat.le_refl _, Nat.zero_le _, .inl ⟨rfl, rfl⟩, g, _, hh, Nat.le_refl _, fun _ sz' vr fr' es' e => ?_⟩
      cases e
      exact ⟨Nat.le_refl _, fun _ => ⟨[], hcell, Nat.zero_le _, fun x => absurd x hR, fun _ => ⟨rfl, rfl⟩⟩⟩
  all_goals (unfold CRep at hc; exact ⟨by simpa [ldC] using hc.2, by simpa [ldC] using hc.1⟩)
theorem agg_of {R : Nat → Value → PV → Prop} {vs : Array Value} {cs : List PV} {o sz : Nat} (hl : cs.length = sz) (hv : vs.size = sz ∧ ∀ (j : Nat) c, cs[j]? = some c → ∃ u, vs[j]? = some u ∧ R (o + j) u c)
    (hr : ∀ j u c, cs[j]? = some c → R (o + j) u c → one c = true ∧ VRep G h w D u c) : VRep G h w D (.agg vs) (.agg cs) := by
  refine mk_agg ⟨by rw [hv.1, hl], fun i c hc => ?_⟩
  obtain ⟨u, h1, h2⟩ := hv.2 i c hc
  obtain ⟨h3, h4⟩ := hr i u c hc h2
  exact ⟨u, h1, one_cell h3 h4⟩
theorem ob_at (hr : HRep B Z0 G h w) {k g sz ver : Nat} {fr : Bool} {es : List PV} {i : Nat} {e : PV} (hh : h[k]? = some (g, .arr sz ver fr es)) (he : es[i]? = some e) :
    G.R (root k) ∧ ∃ us T, w.heap[G.β (root k)]? = some (.cells us T (0, 0)) ∧ us.size = G.γ (root k) * sz ∧ (ecells e).length = sz ∧ ∀ (j : Nat) c, (ecells e)[j]? = some c → ∃ u, us[i * sz + j]? = some u ∧ CRep G h w k i j u c := by
  have ho := hr.ob k g _ hh
  unfold ORep at ho
  obtain ⟨_, _, _, h4, h5⟩ := ho
  by_cases hR : G.R (root k)
  · obtain ⟨us, T, h6, h7, h8⟩ := h4 hR
    exact ⟨hR, us, T, h6, h7, h8 i e he⟩
  · rw [h5 hR] at he; simp at he
theorem cellAt_some {es : List PV} {i j : Nat} {e c : PV} (he : es[i]? = some e) (hc : (ecells e)[j]? = some c) : cellAt es i j = some c := by simp [cellAt, he, hc]
theorem snd_loadP (hr : HRep B Z0 G h w) {hide : List Nat} {t : TypeId} {agg : Bool} {sz : Nat} {v : Value} {p r : PV} (hi : infoA P t = some agg) (hs : sizeA P t = some sz) (hv : VRep G h w D v p) (hk : loadP (lkOf h hide) agg sz p = some r) :
    ∃ u, (Instr.loadAt t v).run P w = .ok u w ∧ VRep G h w D u r := by
  cases p <;> (try (simp [loadP] at hk; done))
  case ptr k g o =>
    simp only [loadP] at hk
    split at hk
    · rename_i g' cs hlk
      split at hk
      · rename_i hg; subst hg
        have hh := lk_some hlk (by simp)
        unfold D at hv; unfold VRep at hv
        obtain ⟨b, rfl, gn, ob, h1, h2, h3⟩ := hv
        rw [hh] at h1; cases h1
        obtain rfl := h3 rfl cs rfl
        have ho := hr.ob k _ _ hh
        unfold ORep at ho
        obtain ⟨hR, us, T, h4, h5⟩ := ho
        have hcs : CSeg (fun _ v c => one c = true ∧ VRep G h w D v c) w (G.β (root k)) 0 cs := fun j c hc => by
          obtain ⟨u, h6, h7⟩ := h5.2 j c hc
          exact ⟨u, by rw [block_cell h4, Nat.zero_add]; exact h6, h7⟩
        obtain ⟨u, h6, h7, h8⟩ := snd_load (P := P) hi hs hcs hk
        rw [Nat.zero_add] at h6
        refine ⟨u, h6, ?_⟩
        cases agg with
        | false => exact (h7 rfl).1.2
        | true =>
          obtain ⟨vs, rfl, rfl, h9, h10⟩ := h8 rfl
          exact agg_of (o := o) (R := fun _ v c => one c = true ∧ VRep G h w D v c) h10 h9 fun _ _ _ _ x => x
      · cases hk
    · cases hk
  case eptr k g gl s i j =>
    simp only [loadP] at hk
    split at hk
    · rename_i g' s' ver fr es hlk
      split at hk
      · rename_i hg; obtain ⟨rfl, hgl, rfl⟩ := hg
        split at hk
        · rename_i e he
          have hh := lk_some hlk (by simp)
          unfold D at hv; unfold VRep at hv
          obtain ⟨b, f, rfl, gn, ob, h1, h2, h3⟩ := hv
          rw [hh] at h1; cases h1
          obtain ⟨_, h3⟩ := h3 rfl _ _ _ _ rfl
          obtain ⟨rfl, h4, _⟩ := h3 hgl
          have hf := h4 rfl
          obtain ⟨hR, us, T, h5, h6, h7, h8⟩ := ob_at hr hh he
          have hcs : CSeg (fun j v c => CRep G h w k i j v c) w (G.β (root k)) (i * s') (ecells e) := fun j c hc => by
            obtain ⟨u, h9, h10⟩ := h8 j c hc
            exact ⟨u, by rw [block_cell h5]; exact h9, h10⟩
          split at hk
          · rename_i cs htk
            split at hk
            · rename_i hag
              subst hag
              cases hk
              obtain ⟨u, h9, _, h11⟩ := snd_load (P := P) hi hs hcs htk
              obtain ⟨vs, rfl, hcs2, h12, h13⟩ := h11 rfl
              cases hcs2
              refine ⟨_, by rw [hf]; exact h9, ?_⟩
              refine agg_of (o := j) (sz := sz) (R := fun jj u c => VRep G h w D u c ∧ one c = true) ?_ ⟨h12.1, fun t c hc => ?_⟩ fun _ _ _ _ x => ⟨x.2, x.1⟩
              · rw [ldCs_length]; exact h13
              · rw [ldCs_get] at hc
                obtain ⟨c0, hc0, rfl⟩ := Option.map_eq_some_iff.1 hc
                obtain ⟨u, h14, h15⟩ := h12.2 t c0 hc0
                refine ⟨u, h14, ?_⟩
                rw [List.getElem?_take] at hc0
                split at hc0
                · rw [List.getElem?_drop] at hc0
                  exact crep_ld hh (cellAt_some he hc0) h15
                · cases hc0
            · cases hk
          · rename_i c hna htk
            cases hk
            obtain ⟨u, h9, h10, h11⟩ := snd_load (P := P) hi hs hcs htk
            cases agg with
            | true => obtain ⟨vs, _, hcs2, _⟩ := h11 rfl; exact absurd hcs2 (hna _)
            | false =>
              obtain ⟨h12, h13⟩ := h10 rfl
              exact ⟨u, by rw [hf]; exact h9, (crep_ld hh (cellAt_some he h13) h12).1⟩
          · cases hk
        · cases hk
      · cases hk
    · cases hk
  case nptr k g ver s i j m l =>
    simp only [loadP] at hk
    split at hk
    · rename_i g' sz0 ver' fr es hlk
      split at hk
      · rename_i hg; obtain ⟨rfl, rfl⟩ := hg
        split at hk
        · rename_i e he
          split at hk
          · rename_i ns hns
            split at hk
            · rename_i x hx
              split at hk
              · rename_i hxs
                have hh := lk_some hlk (by simp)
                unfold D at hv; unfold VRep at hv
                obtain ⟨b, f, rfl, gn, ob, h1, h2, h3⟩ := hv
                rw [hh] at h1; cases h1
                obtain ⟨_, h3⟩ := h3 rfl _ _ _ _ rfl
                obtain ⟨ns', hns', rfl, h4, hml⟩ := h3 rfl
                rw [cellAt_some he hns] at hns'; cases hns'
                obtain ⟨hR, us, T, h5, h6, h7, h8⟩ := ob_at hr hh he
                obtain ⟨u0, h9, h10⟩ := h8 j _ hns
                unfold CRep NRep at h10
                have hRn : G.R (nest k i j) := by
                  refine Classical.byContradiction fun hc => ?_
                  obtain ⟨_, rfl⟩ := h10.2 hc
                  simp at hx
                obtain ⟨us2, T2, ff, cc, rfl, h10', h11, h12, h12', h13, h14, h15, h16⟩ := h10.1 hRn
                obtain ⟨h17, h18⟩ := h16 m x hx
                have hf := h4 (by rw [← h17, hxs])
                have hcs : CSeg (fun _ v c => one c = true ∧ PR G.Z w v c) w (G.β (nest k i j)) (m * s) (ecells x) := fun t c hc => by
                  obtain ⟨h19, u, h20, h21⟩ := h18 t c hc
                  exact ⟨u, by rw [block_cell h13, ← hxs, h17]; exact h20, h19, h21⟩
                obtain ⟨u, h19, h20, h21⟩ := snd_load (P := P) hi hs hcs hk
                refine ⟨u, by rw [hf]; exact h19, ?_⟩
                cases agg with
                | false => exact prep_vrep (h20 rfl).1.1 (h20 rfl).1.2
                | true =>
                  obtain ⟨vs, rfl, rfl, h22, h23⟩ := h21 rfl
                  exact agg_of (o := l) (R := fun _ v c => one c = true ∧ PR G.Z w v c) h23 h22 fun _ _ _ _ x => ⟨x.1, prep_vrep x.1 x.2⟩
              · cases hk
            · cases hk
          · cases hk
        · cases hk
      · cases hk
    · cases hk
  case fptr cs =>
    simp only [loadP] at hk
    unfold D at hv; unfold VRep at hv
    obtain ⟨b, o, rfl, hz, h1⟩ := hv
    have hcs : CSeg (fun _ v c => one c = true ∧ PR G.Z w v c) w b o cs := fun j c hc => by
      obtain ⟨h2, u, h3, h4⟩ := h1 j c hc
      exact ⟨u, h3, h2, h4⟩
    obtain ⟨u, h2, h3, h4⟩ := snd_load (P := P) hi hs hcs hk
    rw [Nat.add_zero] at h2
    refine ⟨u, h2, ?_⟩
    cases agg with
    | false => exact prep_vrep (h3 rfl).1.1 (h3 rfl).1.2
    | true =>
      obtain ⟨vs, rfl, rfl, h5, h6⟩ := h4 rfl
      exact agg_of (o := 0) (R := fun _ v c => one c = true ∧ PR G.Z w v c) h6 h5 fun _ _ _ _ x => ⟨x.1, prep_vrep x.1 x.2⟩
end
end Go.Proofs.Ytalgbgeocpbadaa.Am
