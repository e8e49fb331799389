/-
  Chapter 27: points compared, plates that are good, plates without the dots of pins.
-/
import Derived.Test.YtgdcogoacnghkaaQNtA
namespace Go.Proofs.Ytgdcogoacnghkaa.N
set_option linter.unusedSimpArgs false
set_option linter.unusedVariables false
set_option linter.unusedSectionVars false
open Go.Proofs.Ytgdcogoacnghkaa.Am
set_option maxHeartbeats 4000000
theorem SamePoints_fn (a b : List (Int × Int)) (ha : a.length ≤ 100000) : Am.Fn Try.prog 20 [0] [PTS a, PTS b] (.bool (decide (a = b))) := by
  refine fn_introX mixed (X := X20) c20 0 (by simp [X20]) fun Q hR hN => ?_
  by_cases he : a.length = b.length
  case neg => simp [X20, he]; refine hR _ _ ?_; simp [X20]; rintro rfl; exact he rfl
  simp [X20, he]
  refine loopX (fun (k : Nat) vs h => k ≤ a.length ∧ a.take k = b.take k ∧ vs = [PTS a, PTS b, .undef, I k, .undef, .undef, .undef] ∧ h = []) (fun k => a.length - k) 0 ?_ ?_
  · simp
  · rintro k vs h ⟨h1, h2, rfl, rfl⟩ Q' hK hX hR'
    by_cases hk : k < a.length
    · have hk' : k < b.length := he ▸ hk
      have hw : IntKind.i64.wrap ((k : Int) + 1) = ((k + 1 : Nat) : Int) := wrap_ok (by omega) (by omega)
      by_cases t1 : a[k].1 = b[k].1
      · by_cases t2 : a[k].2 = b[k].2
        · simp [hk, hk', t1, t2, hw]
          refine hK (k + 1) _ _ (by omega) ?_
          simp
          exact ⟨by omega, take_eq h2 hk hk' (Prod.ext t1 t2)⟩
        · simp [hk, hk', t1, t2]
          refine hR' _ _ ?_
          simp
          refine hR _ _ ?_
          simp [X20]
          rintro rfl; exact t2 rfl
      · simp [hk, hk', t1]
        refine hR' _ _ ?_
        simp
        refine hR _ _ ?_
        simp [X20]
        rintro rfl; exact t1 rfl
    · simp [hk]
      refine hX _ _ _ ?_
      simp
      refine hR _ _ ?_
      simp [X20, all_eq h2 (by omega) he]
abbrev U8 (n : Int) : PV := .int .u8 n
theorem most_fn (n : Int) (hn : 0 ≤ n ∧ n ≤ 255) : Am.Fn Try.prog 23 [0] [U8 n] (I (1 + n % 16)) := by
  refine fn_introX mixed (X := X23) c23 0 (by simp [X23]) fun Q hR hN => ?_
  have h1 : IntKind.i64.wrap n = n := wrap_ok (by omega) (by omega)
  have h2 : n.tmod 16 = n % 16 := by rw [Int.tmod_eq_emod_of_nonneg (by omega)]
  have h3 : IntKind.i64.wrap (1 + n % 16) = 1 + n % 16 := wrap_ok (by omega) (by omega)
  simp [X23, h1, h2, h3]
  refine hR _ _ ?_
  simp [X23]
/-- outcomes -/
structure Oc where
  w : Int
  h : Int
  u : List (List Bool)
  d : List (List Bool)
  strikes : Int
  ended : Bool
  worn : List Int
abbrev OC (o : Oc) : PV := .agg [I o.w, I o.h, DT o.u, DT o.d, I o.strikes, .bool o.ended, IL o.worn]
abbrev OU (o : Oc) : PV := .agg [I o.w, I o.h, UR o.u, UR o.d, I o.strikes, .bool o.ended, .uslc (o.worn.map I)]
theorem Good_fn (w h : Int) (u d : List (List Bool)) (o : Oc) (hu : Rws o.u) (hd : Rws o.d) : Am.Fn Try.prog 18 [0] [PC w h u d, OC o] (.bool (o.ended && decide (o.w = w ∧ o.h = h ∧ o.u = u ∧ o.d = d))) := by
  refine fn_introX mixed (X := X18) c18 2 (by simp [X18]) fun Q hR hN => ?_
  by_cases he : o.ended = true
  · simp [X18, he]
    refine call_of (SEqual_fn u d hu.Ok hd.Ok) ?_
    simp
    refine hR _ _ ?_
    simp [X18, he]
  · simp only [Bool.not_eq_true] at he
    simp [X18, he]
    refine hR _ _ ?_
    simp [X18, he]
theorem RGood_fn (w h : Int) (u d : List (List Bool)) (o : Oc) (hu : Rws o.u) (hd : Rws o.d) : Am.Fn Try.prog 19 [0] [PC w h u d, OC o] (.bool (o.ended && decide (o.w = w ∧ o.h = h ∧ o.u = u ∧ o.d = d))) := by
  refine fn_introX mixed (X := X19) c19 2 (by simp [X19]) fun Q hR hN => ?_
  by_cases he : o.ended = true
  · simp [X19, he]
    refine call_of (REqual_fn o.w o.h w h o.u o.d u d hu hd) ?_
    simp
    refine hR _ _ ?_
    simp [X19, he]
  · simp only [Bool.not_eq_true] at he
    simp [X19, he]
    refine hR _ _ ?_
    simp [X19, he]
theorem Same_fn (a b : Oc) (hu : Rws a.u) (hd : Rws a.d) (hl : a.worn.length ≤ 100000) : Am.Fn Try.prog 16 [0] [OC a, OC b] (.bool (decide (a.worn = b.worn ∧ (a.w = b.w ∧ a.h = b.h ∧ a.u = b.u ∧ a.d = b.d) ∧ a.strikes = b.strikes ∧ a.ended = b.ended))) := by
  obtain ⟨w, h, u, d, s, e, l⟩ := a
  obtain ⟨w', h', u', d', s', e', l'⟩ := b
  dsimp only at hu hd hl ⊢
  refine fn_introX mixed (X := X16) c16 4 (by simp [X16]) fun Q hR hN => ?_
  by_cases he : l.length = l'.length
  case neg => simp [X16, he]; refine hR _ _ ?_; simp [X16]; rintro rfl; exact absurd rfl he
  simp [X16, he]
  refine loopX (fun (k : Nat) vs hp => k ≤ l.length ∧ l.take k = l'.take k ∧ vs = [.undef, .undef, .ptr 2 1 0, .ptr 3 1 0, .undef, I k, .undef, .undef, .undef] ∧ hp = [dd, dd, (1, .var [I w, I h, DT u, DT d, I s, .bool e, IL l]), (1, .var [I w', I h', DT u', DT d', I s', .bool e', IL l'])]) (fun k => l.length - k) 0 ?_ ?_
  · simp
  · rintro k vs hp ⟨h1, h2, rfl, rfl⟩ Q' hK hX hR'
    by_cases hk : k < l.length
    · have hk' : k < l'.length := he ▸ hk
      have hw : IntKind.i64.wrap ((k : Int) + 1) = ((k + 1 : Nat) : Int) := wrap_ok (by omega) (by omega)
      by_cases t : l[k] = l'[k]
      · simp [hk, hk', t, hw]
        refine hK (k + 1) _ _ (by omega) ?_
        simp
        exact ⟨by omega, take_eq h2 hk hk' t⟩
      · simp [hk, hk', t]
        refine hR' _ _ ?_
        simp
        refine hR _ _ ?_
        simp [X16]
        rintro rfl; exact absurd rfl t
    · have hll := all_eq h2 (by omega) he
      subst hll
      simp [hk]
      refine hX _ _ _ ?_
      simp
      refine call_of (REqual_fn w h w' h' u d u' d' hu hd) ?_
      by_cases e1 : w = w' ∧ h = h' ∧ u = u' ∧ d = d'
      · by_cases e2 : s = s'
        · simp [e1, e2]
          refine hR _ _ ?_
          simp [X16, e1, e2]
          cases e <;> cases e' <;> rfl
        · simp [e1, e2]
          refine hR _ _ ?_
          simp [X16, e1, e2]
      · have hb : (decide (w = w') && (decide (h = h') && (decide (u = u') && decide (d = d')))) = false := by
          rw [← Bool.not_eq_true]; simpa using e1
        simp [hb]
        refine hR _ _ ?_
        simp [X16]
        rintro rfl rfl rfl rfl; exact absurd ⟨rfl, rfl, rfl, rfl⟩ e1
/-- a row without the dots of pins -/
def wo (off : Nat) (worn : List Int) (r : List Bool) : List Bool := r.mapIdx fun j b => b && !worn.contains ((off + j : Nat) : Int)
theorem wo_len {off : Nat} {worn : List Int} {r : List Bool} : (wo off worn r).length = r.length := by simp [wo]
theorem wo_get {off : Nat} {worn : List Int} {r : List Bool} {j : Nat} (h : j < r.length) : (wo off worn r)[j]? = some (r[j] && !worn.contains ((off + j : Nat) : Int)) := by
  simp [wo, h]
theorem wo_wid {off w : Nat} {worn : List Int} {d : List (List Bool)} (h : Wid w d) : Wid w (d.map (wo off worn)) := fun r hr => by
  obtain ⟨s, hs, rfl⟩ := List.mem_map.1 hr
  rw [wo_len]; exact h s hs
theorem Without_fn (w h : Nat) (u d : List (List Bool)) (worn : List Int) (hw : w ≤ 200) (hh : h ≤ 200) (hu : u.length = h) (hd : d.length = h) (wu : Wid w u) (wd : Wid w d) (hl : worn.length ≤ 100000) : Am.Fn Try.prog 27 [0, 0, 1, 1] [PC w h u d, IL worn] (PU w h (u.map (wo 0 worn)) (d.map (wo w worn))) := by
  have hB := RBlank_fn w h hw hh
  have wu' := wo_wid (off := 0) (worn := worn) wu
  have wd' := wo_wid (off := w) (worn := worn) wd
  have hu' : (u.map (wo 0 worn)).length = h := by simpa using hu
  have hd' : (d.map (wo w worn)).length = h := by simpa using hd
  have c0 := Cpy.start (u.map (wo 0 worn)) w
  have d0 := Cpy.start (d.map (wo w worn)) w
  rw [hu'] at c0; rw [hd'] at d0
  have l0 := blank_len w h
  generalize blankD w h = U0 at hB c0 d0 l0
  refine fn_introX mixed (X := X27) c27 10 (by simp [X27]) fun Q hR hN => ?_
  simp [X27]
  refine call_of hB ?_
  simp [l0]
  refine loopX (fun (p : Nat × List (List Bool) × List (List Bool)) vs h' => p.1 ≤ h ∧ Cpy (u.map (wo 0 worn)) w p.1 0 p.2.1 ∧ Cpy (d.map (wo w worn)) w p.1 0 p.2.2 ∧ vs = [.undef, IL worn, .ptr 5 1 0, .ptr 6 1 0, .ptr 7 1 0, I p.1, .undef, .undef, .undef] ∧
    h' = [dd, dd, dd, dd, dd, (1, .var [I w, I h, DT u, DT d]), (1, .var [I 0, I 0, .nils, .nils]), (1, .var [I w, I h, .own 8 1 h 1 0 h, .own 9 1 h 1 0 h]), (1, .arr 1 0 false (p.2.1.map UW)), (1, .arr 1 0 false (p.2.2.map UW))]) (fun p => h - p.1) (0, U0, U0) ?_ ?_
  · simp [c0, d0]
  · rintro ⟨k, U, V⟩ vs h' ⟨h1, h2, h3, rfl, rfl⟩ Q' hK hX hR'
    dsimp only at h1 h2 h3
    by_cases hk : k < h
    · simp [hk]
      refine loopX (fun (p : Nat × List (List Bool) × List (List Bool)) vs h' => p.1 ≤ w ∧ Cpy (u.map (wo 0 worn)) w k p.1 p.2.1 ∧ Cpy (d.map (wo w worn)) w k p.1 p.2.2 ∧ vs = [.undef, IL worn, .ptr 5 1 0, .ptr 6 1 0, .ptr 7 1 0, I k, I p.1, .undef, .undef] ∧
        h' = [dd, dd, dd, dd, dd, (1, .var [I w, I h, DT u, DT d]), (1, .var [I 0, I 0, .nils, .nils]), (1, .var [I w, I h, .own 8 1 h 1 0 h, .own 9 1 h 1 0 h]), (1, .arr 1 0 false (p.2.1.map UW)), (1, .arr 1 0 false (p.2.2.map UW))]) (fun p => w - p.1) (0, U, V) ?_ ?_
      · simp [h2, h3]
      · rintro ⟨j, U2, V2⟩ vs h' ⟨g1, g2, g3, rfl, rfl⟩ Q2 hK2 hX2 hR2
        dsimp only at g1 g2 g3
        have lU : U2.length = h := by rw [g2.len, hu']
        have lV : V2.length = h := by rw [g3.len, hd']
        have hkU : k < U2.length := by omega
        have hkV : k < V2.length := by omega
        have hku : k < u.length := by omega
        have hkd : k < d.length := by omega
        have wU := wid_get g2.wid hkU
        have wV := wid_get g3.wid hkV
        have wuk := wid_get wu hku
        have wdk := wid_get wd hkd
        by_cases hj : j < w
        · have hw2 : IntKind.i64.wrap ((j : Int) + 1) = ((j + 1 : Nat) : Int) := wrap_ok (by omega) (by omega)
          have hw3 : IntKind.i64.wrap ((w : Int) + (j : Int)) = ((w + j : Nat) : Int) := wrap_ok (by omega) (by omega)
          have hju : j < u[k].length := by omega
          have hjd : j < d[k].length := by omega
          have e1 := wo_get (off := 0) (worn := worn) hju
          have e2 := wo_get (off := w) (worn := worn) hjd
          have hku' : k < (u.map (wo 0 worn)).length := by omega
          have hkd' : k < (d.map (wo w worn)).length := by omega
          have s1 := g2.step wu' hku' hj (hkU := hkU) (by rw [List.getElem_map]; exact e1)
          have s2 := g3.step wd' hkd' hj (hkU := hkV) (by rw [List.getElem_map]; exact e2)
          rw [Nat.zero_add] at s1
          generalize he1 : (u[k][j] && !worn.contains ((j : Nat) : Int)) = B1 at s1
          generalize he2 : (d[k][j] && !worn.contains ((w + j : Nat) : Int)) = B2 at s2
          have hfin : ∀ x, Q2 .normal [.undef, IL worn, .ptr 5 1 0, .ptr 6 1 0, .ptr 7 1 0, I k, .int .i64 ((j : Int) + 1), .undef, x] [dd, dd, dd, dd, dd, (1, .var [I w, I h, DT u, DT d]), (1, .var [I 0, I 0, .nils, .nils]), (1, .var [I w, I h, .own 8 1 h 1 0 h, .own 9 1 h 1 0 h]), (1, .arr 1 0 false ((U2.map UW).set k (.uslc ((U2[k].map .bool).set j (.bool B1))))), (1, .arr 1 0 false ((V2.map UW).set k (.uslc ((V2[k].map .bool).set j (.bool B2)))))] := fun x => by
            rw [uw_set, uw_set]
            generalize U2.set k (U2[k].set j B1) = U3 at s1
            generalize V2.set k (V2[k].set j B2) = V3 at s2
            have l3 : U3.length = h := by rw [s1.len, hu']
            have l4 : V3.length = h := by rw [s2.len, hd']
            refine hK2 (j + 1, U3, V3) _ _ (by dsimp only; omega) ?_
            simp [s1, s2]
            omega
          have H1 := Has_fn worn ((j : Nat) : Int) hl
          have H2 := Has_fn worn ((w + j : Nat) : Int) hl
          by_cases b1 : u[k][j] = true
          · have q1 : B1 = !decide ((j : Int) ∈ worn) := by rw [← he1, b1]; simp
            rw [q1] at hfin
            simp [hk, hj, lU, lV, hkU, hkV, wU, wV, hku, hkd, hju, hjd, b1]
            refine call_of H1 ?_
            by_cases b2 : d[k][j] = true
            · have q2 : B2 = !decide ((w : Int) + j ∈ worn) := by rw [← he2, b2]; simp
              rw [q2] at hfin
              simp [hk, hj, lU, lV, hkU, hkV, wU, wV, hku, hkd, hju, hjd, b2, hw3]
              refine call_of H2 ?_
              simp [hk, hj, lU, lV, hkU, hkV, wU, wV, hku, hkd, hju, hjd, hw2]
              exact hfin _
            · have q2 : B2 = false := by rw [← he2]; simp at b2; simp [b2]
              rw [q2] at hfin
              simp [hk, hj, lU, lV, hkU, hkV, wU, wV, hku, hkd, hju, hjd, b2, hw2]
              exact hfin _
          · have q1 : B1 = false := by rw [← he1]; simp at b1; simp [b1]
            rw [q1] at hfin
            by_cases b2 : d[k][j] = true
            · have q2 : B2 = !decide ((w : Int) + j ∈ worn) := by rw [← he2, b2]; simp
              rw [q2] at hfin
              simp [hk, hj, lU, lV, hkU, hkV, wU, wV, hku, hkd, hju, hjd, b1, b2, hw3]
              refine call_of H2 ?_
              simp [hk, hj, lU, lV, hkU, hkV, wU, wV, hku, hkd, hju, hjd, hw2]
              exact hfin _
            · have q2 : B2 = false := by rw [← he2]; simp at b2; simp [b2]
              rw [q2] at hfin
              simp [hk, hj, lU, lV, hkU, hkV, wU, wV, hku, hkd, hju, hjd, b1, b2, hw2]
              exact hfin _
        · obtain rfl : j = w := by omega
          have hw1 : IntKind.i64.wrap ((k : Int) + 1) = ((k + 1 : Nat) : Int) := wrap_ok (by omega) (by omega)
          simp
          refine hX2 _ _ _ ?_
          simp [hw1]
          refine hK (k + 1, U2, V2) _ _ (by dsimp only; omega) ?_
          simp
          exact ⟨by omega, g2.row wu' (by omega), g3.row wd' (by omega)⟩
    · obtain rfl : k = h := by omega
      have e1 := h2.done' hu'
      have e2 := h3.done' hd'
      simp
      refine hX _ _ _ ?_
      simp
      refine hR _ _ ?_
      simp [X27, e1, e2, hu, hd]
end Go.Proofs.Ytgdcogoacnghkaa.N
