/-
  Chapter 26: StrikeApplies.
-/
import Derived.Test.YtalgbgeocpbadaaQKwA
import Derived.Test.YtalgbgeocpbadaaQKrA
import Derived.Test.YtalgbgeocpbadaaQKpX
import Derived.Test.YtalgbgeocpbadaaMg4
namespace Go.Proofs.Ytalgbgeocpbadaa.K
set_option linter.unusedSimpArgs false
set_option linter.unusedVariables false
set_option linter.unusedSectionVars false
open Go.Proofs.Ytalgbgeocpbadaa.Am
set_option maxHeartbeats 8000000
theorem frzA_stC (P : List Stk) : List.map (frzE ∘ stC) P = P.map stC := List.map_congr_left fun r _ => rfl
/-- elements that read as strikes once they are frozen -/
structure Frz (es : List PV) (L : List Stk) : Prop where
  eq : es.map frzE = L.map stC
  nr : ∀ x, x ∈ es → noRefE x = true
theorem Frz.len {es : List PV} {L : List Stk} (f : Frz es L) : es.length = L.length := by have := congrArg List.length f.eq; simpa using this
theorem Frz.stC (L : List Stk) : Frz (L.map stC) L := ⟨by rw [List.map_map]; exact frzA_stC L, fun x hx => by obtain ⟨s, _, rfl⟩ := List.mem_map.1 hx; rfl⟩
theorem Frz.set {es : List PV} {L : List Stk} (f : Frz es L) (i : Nat) {e : PV} {s : Stk} (he : frzE e = K.stC s) (hn : noRefE e = true) : Frz (es.set i e) (L.set i s) := by
  refine ⟨by rw [List.map_set, List.map_set, f.eq, he], fun x hx => ?_⟩
  rcases List.mem_or_eq_of_mem_set hx with h | h
  · exact f.nr x h
  · rw [h]; exact hn
abbrev SP (a b c d n : Int) : PV := .agg [.int .u8 a, .int .u8 b, .int .u8 c, .int .u8 d, .int .i8 n]
theorem spoilt_fn (s : List Stk) (a b c d n : Int) (hs : s.length ≤ 6) (hk : ∀ t ∈ s, t.up.length ≤ 60 ∧ t.down.length ≤ 60) (hc : 0 ≤ c ∧ c ≤ 255) (hd : 0 ≤ d ∧ d ≤ 255) (hn : -128 ≤ n ∧ n ≤ 127) :
    ∃ es L, Sks L ∧ Frz es L ∧ Am.Fn Try.prog 18 [3] [.slc (s.map stC), SP a b c d n] (.uslc es) := by
  suffices hh : ∃ r, (∃ es L, Sks L ∧ Frz es L ∧ r = .uslc es) ∧ Am.Fn Try.prog 18 [3] [.slc (s.map stC), SP a b c d n] r by
    obtain ⟨r, ⟨es, L, h1, h2, rfl⟩, h3⟩ := hh; exact ⟨es, L, h1, h2, h3⟩
  have q1 : s.length * 56 ≤ 140737488355328 := by omega
  have f0 := Frz.stC s
  have n0 := f0.nr
  refine fn_introE mixed (X := X18) c18 14 (by simp [X18]) (by kernel_rfl) fun Q hR hN => ?_
  by_cases h0 : s = []
  · subst h0
    simp [X18]
    refine hR (.uslc [.agg [I n, .slc [], .slc []]]) _ _ ⟨_, [⟨n, [], []⟩], ⟨by simp, by simp⟩, ⟨rfl, by simp⟩, rfl⟩ ?_
    have hn1 : IntKind.i64.wrap n = n := wrap_ok (by omega) (by omega)
    simp [X18, hn1]
  · have hl : 0 < s.length := List.length_pos_iff.2 h0
    obtain ⟨i, hi, hil⟩ : ∃ i : Nat, (IntKind.i64.wrap c).tmod s.length = i ∧ i < s.length := by
      rw [wrap_ok (by omega) (by omega), Int.tmod_eq_emod_of_nonneg hc.1]
      have h1 := Int.emod_nonneg c (show (s.length : Int) ≠ 0 by omega)
      have h2 := Int.emod_lt_of_pos c (show (0 : Int) < s.length by omega)
      exact ⟨(c % s.length).toNat, by omega, by omega⟩
    have hn1 : IntKind.i64.wrap n = n := wrap_ok (by omega) (by omega)
    have hl0 : ¬ s.length = 0 := by omega
    have hdm : d.tmod 4 = d % 4 := Int.tmod_eq_emod_of_nonneg hd.1
    obtain ⟨t, ht⟩ : ∃ t, s[i] = t := ⟨_, rfl⟩
    obtain ⟨k1, k2⟩ := hk t (by rw [← ht]; exact List.getElem_mem hil)
    have u1 : t.up.length * 8 ≤ 140737488355328 := by omega
    have u2 : (t.up.length + 1) * 8 ≤ 140737488355328 := by omega
    have u3 : t.down.length * 8 ≤ 140737488355328 := by omega
    have u4 : (t.down.length + 1) * 8 ≤ 140737488355328 := by omega
    have hS : ∀ t' : Stk, t'.up.length ≤ 100000 → t'.down.length ≤ 100000 → Sks (s.set i t') := fun t' h1 h2 => ⟨by simp; omega, fun x hx => by
      rcases List.mem_or_eq_of_mem_set hx with h | h
      · have := hk x h; omega
      · subst h; exact ⟨h1, h2⟩⟩
    by_cases d0 : d % 4 = 0
    · simp [X18, q1, n0, hi, hil, h0, hl0, hdm, hn1, d0, ht]
      have F := f0.set i (e := .agg [I (IntKind.i64.wrap (t.row + n)), IL t.up, IL t.down]) (s := ⟨IntKind.i64.wrap (t.row + n), t.up, t.down⟩) (by simp) (by first | rfl | simp)
      have hes := F.len.trans List.length_set
      refine hR _ _ _ ⟨_, _, hS _ (by simp; omega) (by simp; omega), F, rfl⟩ ?_
      have nF := F.nr
      generalize (List.map stC s).set i _ = es at nF hes
      simp [X18]
      exact ⟨hes, nF⟩
    by_cases d1 : d % 4 = 1
    · simp [X18, q1, n0, hi, hil, h0, hl0, hdm, hn1, d1, ht, u1, u2]
      have F := f0.set i (e := .agg [I t.row, .uslc (List.map (PV.int IntKind.i64) t.up ++ [PV.int IntKind.i64 n]), IL t.down]) (s := ⟨t.row, t.up ++ [n], t.down⟩) (by simp) (by first | rfl | simp)
      have hes := F.len.trans List.length_set
      refine hR _ _ _ ⟨_, _, hS _ (by simp; omega) (by simp; omega), F, rfl⟩ ?_
      have nF := F.nr
      generalize (List.map stC s).set i _ = es at nF hes
      simp [X18]
      exact ⟨hes, nF⟩
    by_cases d2 : d % 4 = 2
    · simp [X18, q1, n0, hi, hil, h0, hl0, hdm, hn1, d2, ht, u3, u4]
      have F := f0.set i (e := .agg [I t.row, IL t.up, .uslc (List.map (PV.int IntKind.i64) t.down ++ [PV.int IntKind.i64 n])]) (s := ⟨t.row, t.up, t.down ++ [n]⟩) (by simp) (by first | rfl | simp)
      have hes := F.len.trans List.length_set
      refine hR _ _ _ ⟨_, _, hS _ (by simp; omega) (by simp; omega), F, rfl⟩ ?_
      have nF := F.nr
      generalize (List.map stC s).set i _ = es at nF hes
      simp [X18]
      exact ⟨hes, nF⟩
    · simp [X18, q1, n0, hi, hil, h0, hl0, hdm, hn1, d0, d1, d2, ht]
      have F := f0.set i (e := .agg [I t.row, IL t.down, IL t.up]) (s := ⟨t.row, t.down, t.up⟩) (by simp) (by first | rfl | simp)
      have hes := F.len.trans List.length_set
      refine hR _ _ _ ⟨_, _, hS _ (by simp; omega) (by simp; omega), F, rfl⟩ ?_
      have nF := F.nr
      generalize (List.map stC s).set i _ = es at nF hes
      simp [X18]
      exact ⟨hes, nF⟩
theorem modR_rws {u : List (List Bool)} {k : Nat} {l : List Int} (h : Rws u) : Rws (modR u k l) := by
  refine ⟨by rw [modR_len]; exact h.1, fun r hr => ?_⟩
  obtain ⟨i, hi, rfl⟩ := List.mem_iff_getElem.1 hr
  have hi' : i < u.length := by rw [modR_len] at hi; exact hi
  simp only [modR, List.getElem_modify]
  split
  · rw [raiseR_len]; exact h.2 _ (List.getElem_mem hi')
  · exact h.2 _ (List.getElem_mem hi')
theorem applyG_rws {w h : Nat} : ∀ (l : List Stk) (k : Nat) (u d : List (List Bool)), Rws u → Rws d → Rws (applyG w h k u d l).u ∧ Rws (applyG w h k u d l).d
  | [], k, u, d, hu, hd => ⟨hu, hd⟩
  | s :: l, k, u, d, hu, hd => by
    unfold applyG
    split
    · exact applyG_rws l _ _ _ (modR_rws hu) (modR_rws hd)
    · exact ⟨⟨by simp, by simp⟩, ⟨by simp, by simp⟩⟩
theorem applyO_rws (w h : Int) (l : List Stk) : Rws (applyO w h l).u ∧ Rws (applyO w h l).d := by
  unfold applyO
  split
  · rename_i hs
    have := size_spec hs
    have hb : Rws (blankD w.toNat h.toNat) := ⟨by rw [blank_len]; omega, fun r hr => by rw [wid_blank _ _ r hr]; omega⟩
    exact applyG_rws l _ _ _ hb hb
  · exact ⟨⟨by simp, by simp⟩, ⟨by simp, by simp⟩⟩
theorem same_out (o : Out) (hu : Rws o.u) (hd : Rws o.d) : Am.Fn Try.prog 15 [0] [RC o.w o.h o.u o.d o.n o.e, RC o.w o.h o.u o.d o.n o.e] (.bool true) := by
  have := SameResult_fn o.w o.h o.w o.h o.n o.e o.n o.e o.u o.d o.u o.d hu hd
  rwa [decide_eq_true ⟨rfl, rfl, rfl, rfl, rfl, rfl⟩] at this
theorem Applies_fn (a b c d n : Int) (l : List RSt) (v w' : Int) (ha : 0 ≤ a ∧ a ≤ 255) (hb : 0 ≤ b ∧ b ≤ 255) (hc : 0 ≤ c ∧ c ≤ 255) (hd : 0 ≤ d ∧ d ≤ 255) (hn : -128 ≤ n ∧ n ≤ 127) (hl : ∀ x ∈ l, rsOk x) :
    Am.Fn Try.prog 6 [0] [.slc (l.map RS), SP a b c d n, .agg [.int .i8 v, .int .i8 w']] (.bool true) := by
  obtain ⟨w, h, u, dn, M, hM⟩ := Made_fn a b [] ha hb (by simp)
  obtain ⟨w0, w1, w2, h0, h1, h2, lu, ld, wu, wd⟩ := M
  have hA := strikes_fn l w h hl (by omega) (by omega)
  have nA : (skF w h (l.take 6)).length ≤ 6 := Nat.le_trans (skF_len _ _ _) (by simp; omega)
  have kA : ∀ t ∈ skF w h (l.take 6), t.up.length ≤ 60 ∧ t.down.length ≤ 60 := fun s hs => by
    obtain ⟨x, hx, rfl⟩ := List.mem_map.1 hs
    obtain ⟨_, hx⟩ := List.mem_filter.1 hx
    simp only [shortB, Bool.and_eq_true, decide_eq_true_eq] at hx
    have a1 := incG_len w x.2.1 (-1)
    have a2 := incG_len w x.2.2 (-1)
    simp only [mkS]
    omega
  generalize skF w h (l.take 6) = A at hA nA kA
  have hA := Fn_frz (List.all_eq_true.2 (nr_stU A)) hA
  rw [List.map_map, show List.map (frzE ∘ stU) A = A.map stC from List.map_congr_left fun r _ => rfl] at hA
  obtain ⟨es, L, sL, F, hS⟩ := spoilt_fn A a b c d n nA kA hc hd hn
  have nF := eq_true F.nr
  have tF : List.take es.length (List.map frzE es) = L.map stC := by rw [F.eq]; exact List.take_of_length_le (by simp [F.len])
  have f1 := apply_fn w h L sL
  have f2 := RApply_fn w h L sL
  have f3 := apply_fn (IntKind.i64.wrap v) (IntKind.i64.wrap w') L sL
  have f4 := RApply_fn (IntKind.i64.wrap v) (IntKind.i64.wrap w') L sL
  obtain ⟨r1, r2⟩ := applyO_rws w h L
  obtain ⟨r3, r4⟩ := applyO_rws (IntKind.i64.wrap v) (IntKind.i64.wrap w') L
  generalize applyO w h L = o at f1 f2 r1 r2
  generalize applyO (IntKind.i64.wrap v) (IntKind.i64.wrap w') L = o' at f3 f4 r3 r4
  have t1 := frz_take o.u
  have t2 := frz_take o.d
  have t3 := frz_take o'.u
  have t4 := frz_take o'.d
  refine fn_introX mixed (X := X6) c6 15 (by simp [X6]) fun Q hR hN => ?_
  simp [X6]
  refine call_of sanity_fn ?_
  simp
  refine call_of hM ?_
  simp
  refine call_of hA ?_
  simp
  refine call_of hS ?_
  simp [↓nF, tF]
  refine call_of f1 ?_
  simp [↓nF, tF]
  refine call_of f2 ?_
  simp [t1, t2]
  refine call_of (same_out o r1 r2) ?_
  simp [↓nF, tF]
  refine call_of f3 ?_
  simp [↓nF, tF]
  refine call_of f4 ?_
  simp [t3, t4]
  refine call_of (same_out o' r3 r4) ?_
  simp
  refine hR _ _ ?_
  simp [X6]
end Go.Proofs.Ytalgbgeocpbadaa.K
