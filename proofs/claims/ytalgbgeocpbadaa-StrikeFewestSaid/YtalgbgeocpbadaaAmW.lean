/-
  A function: what its body's end gives is what a call gives.
-/
import Derived.Test.YtalgbgeocpbadaaAmVr
namespace Go.Proofs.Ytalgbgeocpbadaa.Am
set_option linter.unusedSimpArgs false
set_option linter.unusedVariables false
set_option linter.unusedSectionVars false
open Go.RowKit
theorem ecells_na {x : PV} (h : ∀ cs, x ≠ .agg cs) : ecells x = [x] := by
  cases x <;> first | rfl | exact absurd rfl (h _)
theorem comps_nt {x : PV} (h : ∀ cs, x ≠ .tup cs) : comps x = [x] := by
  cases x <;> first | rfl | exact absurd rfl (h _)
theorem rvC_na (lk : Look) (c : PV) : (∀ cs, rvC lk c ≠ .agg cs) ∧ ∀ cs, rvC lk c ≠ .tup cs := by
  cases c <;> simp only [rvC] <;> (try (refine ⟨fun cs e => ?_, fun cs e => ?_⟩ <;> cases e; done))
  split
  · split <;> (refine ⟨fun cs e => ?_, fun cs e => ?_⟩ <;> cases e)
  · refine ⟨fun cs e => ?_, fun cs e => ?_⟩ <;> cases e
theorem rvE_eq (lk : Look) (c : PV) : (∃ cs, c = .agg cs) ∨ ((∀ cs, c ≠ .agg cs) ∧ rvE lk c = rvC lk c) := by
  cases c
  case agg cs => exact .inl ⟨cs, rfl⟩
  all_goals exact .inr (And.intro (fun cs e => absurd e (by simp)) rfl)
theorem rcells_rv (lk : Look) (q : PV) : rcells (rvV lk q) = (rcells q).map (rvC lk) := by
  have h1 : ∀ c, ecells (rvE lk c) = (ecells c).map (rvC lk) := fun c => by
    rcases rvE_eq lk c with ⟨cs, rfl⟩ | ⟨h, e⟩
    · rfl
    · rw [e, ecells_na (rvC_na lk c).1, ecells_na h]; rfl
  have h2 : ∀ c, comps (rvE lk c) = [rvE lk c] := fun c => by
    rcases rvE_eq lk c with ⟨cs, rfl⟩ | ⟨h, e⟩
    · rfl
    · rw [e, comps_nt (rvC_na lk c).2]
  unfold rcells
  cases q <;> simp only [rvV]
  case tup vs => simp only [comps, List.flatMap_map, List.map_flatMap, h1]
  all_goals
    rw [h2]
    simp only [comps, List.flatMap_cons, List.flatMap_nil, List.append_nil, h1]
section
variable {P : Program} {B : Nat} {Z0 : Nat → Prop} {G G' : Gh} {h h' : Heap} {w w' : World}
/-- the number of the array that goes out at place p -/
def jOut (cells : List PV) (lk : Look) (p : Nat) : Option Nat := match cells[p]? with
  | some (.own k g gl s o l) => (match rvC lk (.own k g gl s o l) with
    | .uslc _ => some k
    | _ => none)
  | _ => none
def Gh.out (G : Gh) (J : Nat → Option Nat) : Gh :=
  { β := fun key => match J key.1 with | some k => G.β (k, key.2) | none => 0
    R := fun key => match J key.1 with | some k => G.R (k, key.2) | none => False
    γ := fun key => match J key.1 with | some k => G.γ (k, key.2) | none => 0
    σ := fun key => match J key.1 with | some k => G.σ (k, key.2) | none => 0
    Z := G.Z }
theorem rvC_uslc {lk : Look} {c : PV} {es : List PV} (h : rvC lk c = .uslc es) : ∃ k g s ver, c = .own k g es.length s 0 es.length ∧ lk k = (g, .arr s ver false es) ∧ es.all noRefE = true := by
  cases c <;> simp only [rvC] at h <;> (try (cases h; done))
  case own k g gl s o l =>
    split at h
    · rename_i g' s' ver fr es' hlk
      split at h
      · rename_i hc
        obtain ⟨rfl, rfl, rfl, rfl, rfl, rfl, h7⟩ := hc
        cases h
        exact ⟨k, _, _, ver, rfl, hlk, h7⟩
      · cases h
    · cases h
theorem outIds_nodup : ∀ {cells : List PV}, (cells.filterMap fun c => match c with | .own k _ _ _ _ _ => some k | _ => none).Nodup → ∀ {i j k g gl s o l g' gl' s' o' l' : Nat}, cells[i]? = some (.own k g gl s o l) → cells[j]? = some (.own k g' gl' s' o' l') → i = j
  | [], _, i, j, _, _, _, _, _, _, _, _, _, _, _, hi, _ => by simp at hi
  | c :: cells, hn, i, j, k, g, gl, s, o, l, g', gl', s', o', l', hi, hj => by
    have hin : ∀ {m g gl s o l : Nat}, cells[m]? = some (.own k g gl s o l) → k ∈ cells.filterMap fun c => match c with | .own k _ _ _ _ _ => some k | _ => none := fun hm => List.mem_filterMap.2 ⟨_, List.mem_of_getElem? hm, rfl⟩
    have tail : (cells.filterMap fun c => match c with | .own k _ _ _ _ _ => some k | _ => none).Nodup := by
      rw [List.filterMap_cons] at hn
      split at hn
      · exact hn
      · exact (List.nodup_cons.1 hn).2
    cases i with
    | zero =>
      cases j with
      | zero => rfl
      | succ j =>
        exfalso
        simp at hi; subst hi
        simp only [List.filterMap_cons] at hn
        exact (List.nodup_cons.1 hn).1 (hin (by simpa using hj))
    | succ i =>
      cases j with
      | zero =>
        exfalso
        simp at hj; subst hj
        simp only [List.filterMap_cons] at hn
        exact (List.nodup_cons.1 hn).1 (hin (by simpa using hi))
      | succ j =>
        have := outIds_nodup tail (show cells[i]? = some _ by simpa using hi) (show cells[j]? = some _ by simpa using hj)
        omega
theorem szsOk_get {szs : List Nat} : ∀ {cells : List PV} {q : Nat}, szsOk szs q cells = true → ∀ {i k g gl s o l : Nat}, cells[i]? = some (.own k g gl s o l) → szs.getD (q + i) 0 = s
  | [], _, _, i, _, _, _, _, _, _, hi => by simp at hi
  | c :: cells, q, h, i, k, g, gl, s, o, l, hi => by
    have tail : szsOk szs (q + 1) cells = true := by
      cases c <;> simp only [szsOk, Bool.and_eq_true] at h <;> first | exact h | exact h.2
    cases i with
    | zero =>
      simp at hi; subst hi
      simp only [szsOk, Bool.and_eq_true, beq_iff_eq] at h
      exact h.1
    | succ i =>
      have := szsOk_get tail (i := i) (by simpa using hi)
      rw [← this, show q + (i + 1) = q + 1 + i by omega]
/-- the objects of a result, from those of the body -/
theorem out_rep (hr : HRep B Z0 G h w) {q : PV} {szs : List Nat} (hn : nodupN (outIds q) = true) (hsz : szsOk szs 0 (rcells q) = true) :
    HRep B Z0 (G.out (jOut (rcells q) (lkOf h []))) (resH szs (rvV (lkOf h []) q)) w ∧
    ∀ {n : Nat} {u : Value} {p : Nat} {c : PV}, (rcells q)[p]? = some c → VRep G h w n u c → VRep (G.out (jOut (rcells q) (lkOf h []))) (resH szs (rvV (lkOf h []) q)) w n u (thC (resK szs p) (fun _ => 1) (rvC (lkOf h []) c)) := by
  have hnd := nodupN_spec hn
  have hJ : ∀ {p k}, jOut (rcells q) (lkOf h []) p = some k → ∃ g s ver es, (rcells q)[p]? = some (.own k g es.length s 0 es.length) ∧ rvC (lkOf h []) (.own k g es.length s 0 es.length) = .uslc es ∧ h[k]? = some (g, .arr s ver false es) ∧ es.all noRefE = true := fun {p k} hj => by
    unfold jOut at hj
    split at hj
    · rename_i k' g gl s o l hc
      split at hj
      · rename_i es he
        cases hj
        obtain ⟨k2, g2, s2, ver, h1, h2, h3⟩ := rvC_uslc he
        cases h1
        exact ⟨_, _, ver, es, hc, he, lk_some h2 (by simp), h3⟩
      · cases hj
    · cases hj
  have hJ' : ∀ {p es}, (rcells (rvV (lkOf h []) q))[p]? = some (.uslc es) → ∃ k, jOut (rcells q) (lkOf h []) p = some k := fun {p es} hp => by
    rw [rcells_rv, List.getElem?_map] at hp
    obtain ⟨c, hc, he⟩ := Option.map_eq_some_iff.1 hp
    obtain ⟨k, g, s, ver, rfl, _, _⟩ := rvC_uslc he
    refine ⟨k, ?_⟩
    unfold jOut
    rw [hc]
    simp only
    rw [he]
  have hres : ∀ {p k}, jOut (rcells q) (lkOf h []) p = some k → ∀ {es g s}, (rcells q)[p]? = some (.own k g es.length s 0 es.length) → rvC (lkOf h []) (.own k g es.length s 0 es.length) = .uslc es → (resH szs (rvV (lkOf h []) q))[p]? = some (1, .arr s 0 false es) := fun {p k} hj {es g s} hc he => by
    have := resH_arr (szs := szs) (r := rvV (lkOf h []) q) (p := p) (es := es) (by rw [rcells_rv, List.getElem?_map, hc]; simp [he])
    rw [this]
    have := szsOk_get hsz hc
    rw [Nat.zero_add] at this
    rw [this]
  have hnew : ∀ {p k y}, jOut (rcells q) (lkOf h []) p = some k → (G.out (jOut (rcells q) (lkOf h []))).β (p, y) = G.β (k, y) ∧ ((G.out (jOut (rcells q) (lkOf h []))).R (p, y) ↔ G.R (k, y)) ∧ (G.out (jOut (rcells q) (lkOf h []))).γ (p, y) = G.γ (k, y) ∧ (G.out (jOut (rcells q) (lkOf h []))).σ (p, y) = G.σ (k, y) := fun {p k y} hj => by
    refine ⟨?_, ?_, ?_, ?_⟩ <;> simp only [Gh.out, hj]
  have hRJ : ∀ {p y}, (G.out (jOut (rcells q) (lkOf h []))).R (p, y) → ∃ k, jOut (rcells q) (lkOf h []) p = some k := fun {p y} hR => by
    cases hj : jOut (rcells q) (lkOf h []) p with
    | some k => exact ⟨k, rfl⟩
    | none => simp only [Gh.out, hj] at hR
  have hob : ∀ {p g o}, (resH szs (rvV (lkOf h []) q))[p]? = some (g, o) → o = .dead ∨ ∃ k g0 s ver es, jOut (rcells q) (lkOf h []) p = some k ∧ h[k]? = some (g0, .arr s ver false es) ∧ es.all noRefE = true ∧ g = 1 ∧ o = .arr s 0 false es := fun {p g o} ho => by
    rcases resH_ob ho with rfl | ⟨es, h1, rfl, h2⟩
    · exact .inl rfl
    · obtain ⟨k, hk⟩ := hJ' h1
      obtain ⟨g0, s, ver, es', q1, q2, q3, q4⟩ := hJ hk
      rw [hres hk q1 q2] at ho
      cases ho
      exact .inr ⟨k, g0, s, ver, es', hk, q3, q4, rfl, rfl⟩
  refine ⟨⟨hr.base, hr.zo, hr.zb, ?_, ?_, ?_, ?_, ?_⟩, ?_⟩
  · rintro ⟨p, y⟩ hR
    obtain ⟨k, hk⟩ := hRJ hR
    obtain ⟨a1, a2, _⟩ := hnew (y := y) hk
    rw [a1]; exact hr.lv _ (a2.1 hR)
  · rintro p g o ho hlv y hR
    obtain ⟨k, hk⟩ := hRJ hR
    obtain ⟨a1, a2, _⟩ := hnew (y := y) hk
    obtain ⟨g0, s, ver, es', q1, q2, q3, q4⟩ := hJ hk
    rw [a1]
    exact hr.nz k _ _ q3 rfl y (a2.1 hR)
  · rintro p g sz ver es ho y hR
    rcases hob ho with h1 | ⟨_, _, _, _, _, _, _, _, _, h1⟩ <;> cases h1
  · rintro ⟨p1, y1⟩ ⟨p2, y2⟩ h1 h2 he
    obtain ⟨k1, hk1⟩ := hRJ h1
    obtain ⟨k2, hk2⟩ := hRJ h2
    obtain ⟨a1, a2, _⟩ := hnew (y := y1) hk1
    obtain ⟨b1, b2, _⟩ := hnew (y := y2) hk2
    have := hr.inj _ _ (a2.1 h1) (b2.1 h2) (by rw [← a1, ← b1]; exact he)
    simp only [Prod.mk.injEq] at this
    obtain ⟨rfl, rfl⟩ := this
    obtain ⟨g0, s, ver, es', q1, _⟩ := hJ hk1
    obtain ⟨g0', s', ver', es'', r1, _⟩ := hJ hk2
    rw [outIds_nodup hnd q1 r1]
  · rintro p g o ho
    rcases hob ho with rfl | ⟨k, g0, s, ver, es, hk, hh, hnr, rfl, rfl⟩
    · trivial
    · have ho' := hr.ob k _ _ hh
      unfold ORep at ho' ⊢
      obtain ⟨a1, a2, a3, a4⟩ := hnew (y := none) hk
      rw [show (G.out (jOut (rcells q) (lkOf h []))).β (root p) = G.β (root k) from a1, show (G.out (jOut (rcells q) (lkOf h []))).γ (root p) = G.γ (root k) from a3]
      obtain ⟨o1, o2, o3, o4, o5⟩ := ho'
      refine ⟨o1, o2, o3, fun hR => ?_, fun hR => o5 fun y => hR (a2.2 y)⟩
      obtain ⟨us, T, o6, o7, o8⟩ := o4 (a2.1 hR)
      refine ⟨us, T, o6, o7, fun i e he => ?_⟩
      obtain ⟨o9, o10⟩ := o8 i e he
      refine ⟨o9, fun j c hc => ?_⟩
      obtain ⟨u, o11, o12⟩ := o10 j c hc
      refine ⟨u, o11, ?_⟩
      have hnr' : (pureC c || isU c) = true := List.all_eq_true.1 (show (ecells e).all (fun c => pureC c || isU c) = true from List.all_eq_true.1 hnr e (List.mem_of_getElem? he)) c (List.mem_of_getElem? hc)
      cases c
      case uslc ns =>
        unfold CRep NRep at o12 ⊢
        obtain ⟨b1, b2, b3, b4⟩ := hnew (y := some (i, j)) hk
        rw [b1, b2, b3, b4]
        exact o12
      all_goals
        unfold CRep at o12 ⊢
        exact ⟨o12.1, prep_vrep o12.1 (vrep_pure (G := G) (h := h) (by simpa [isU] using hnr') o12.2)⟩
  · intro n u p c hp hc
    have hundef : ∀ {x}, x = PV.undef → VRep (G.out (jOut (rcells q) (lkOf h []))) (resH szs (rvV (lkOf h []) q)) w n u x := fun e => by rw [e]; exact mk_undef
    cases c <;> simp only [rvC] <;> (try exact hundef rfl)
    case bool => simp only [thC]; obtain rfl := rep_bool hc; exact mk_bool
    case int => simp only [thC]; obtain rfl := rep_int hc; exact mk_int
    case str => simp only [thC]; obtain rfl := rep_str hc; exact mk_str
    case nils => simp only [thC]; obtain rfl := rep_nils hc; exact mk_nils
    case lit => simp only [thC]; cases n <;> (unfold VRep at hc ⊢; exact hc)
    case slc es => simp only [thC]; exact mk_slc (rep_slc (G := G) (h := h) hc)
    case own k g gl s o l =>
      split
      · rename_i g' s' ver fr es hlk
        split
        · rename_i hcond
          obtain ⟨rfl, rfl, rfl, rfl, rfl, rfl, hnr⟩ := hcond
          have hrv : rvC (lkOf h []) (.own k g' es.length s' 0 es.length) = .uslc es := by simp only [rvC, hlk]; simp [hnr]
          have hj : jOut (rcells q) (lkOf h []) p = some k := by
            unfold jOut; rw [hp]; simp only; rw [hrv]
          have hh := lk_some hlk (by simp)
          have hq := hres hj hp hrv
          simp only [thC]
          rw [show (resK szs p).1 = p from rfl, show (resK szs p).2 = s' from by
            have := szsOk_get hsz hp
            rw [Nat.zero_add] at this
            exact this]
          have hc' := VRep.cell (m := D) (by refine ⟨?_, ?_, ?_⟩ <;> intros <;> simp) hc
          refine VRep.cell (n := D) (by refine ⟨?_, ?_, ?_⟩ <;> intros <;> simp) ?_
          unfold D at hc' ⊢; unfold VRep at hc' ⊢
          obtain ⟨a, c, q0, q1, q2, q3, gn, ob, q4, q5, q6⟩ := hc'
          refine ⟨a, c, q0, q1, q2, q3, _, _, hq, Nat.le_refl _, fun _ sz vr fr es' e9 => ?_⟩
          cases e9
          refine ⟨Nat.le_refl _, fun _ => ?_⟩
          rw [hh] at q4
          cases q4
          obtain ⟨_, q7⟩ := q6 rfl _ _ _ _ rfl
          obtain ⟨q8, q9, q10⟩ := q7 rfl
          obtain ⟨a1, a2, a3, a4⟩ := hnew (y := none) hj
          rw [show (G.out (jOut (rcells q) (lkOf h []))).β (root p) = G.β (root k) from a1, show (G.out (jOut (rcells q) (lkOf h []))).γ (root p) = G.γ (root k) from a3]
          refine ⟨q8, fun hR => ?_, fun hR => q10 fun y => hR (a2.2 y)⟩
          obtain ⟨f, f1, f2, f3, f4⟩ := q9 (a2.1 hR)
          exact ⟨f, f1, f2, f3, f4⟩
        · exact hundef rfl
      · exact hundef rfl
end
end Go.Proofs.Ytalgbgeocpbadaa.Am
