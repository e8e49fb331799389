/-
  Chapter 23: VolumeParts.
-/
import Derived.Test.YtnipkbhgaljcoaaVmA
import Derived.Test.YtnipkbhgaljcoaaViA
namespace Go.Proofs.Ytnipkbhgaljcoaa.V
set_option linter.unusedSimpArgs false
set_option linter.unusedVariables false
set_option linter.unusedSectionVars false
open Go.Proofs.Ytnipkbhgaljcoaa.Am
/-- what is known of a block hangs on the blocks behind it alone -/
theorem ent_shift {ok ok' : Nat → Nat → Bool} {n n' s : Nat} (hn : n' + s = n) (h : ∀ i j, ok' i j = ok (i + s) (j + s)) : ∀ (k i : Nat), n' - i = k → i ≤ n' →
    (ent ok' n' i).1 = (ent ok n (i + s)).1 ∧ (0 ≤ (ent ok' n' i).1 → i < n' → (ent ok n (i + s)).2 = (ent ok' n' i).2 + s) := by
  intro k
  induction k using Nat.strongRecOn with
  | ind k ih =>
    intro i hk hi
    rcases Nat.lt_or_ge i n' with hlt | hge
    · have ih' : ∀ j, i < j → j ≤ n' → (ent ok' n' j).1 = (ent ok n (j + s)).1 := fun j h1 h2 => (ih (n' - j) (by omega) j rfl h2).1
      have hb : ∀ j, i + s < j → j ≤ n → ∃ j', j = j' + s ∧ i < j' ∧ j' ≤ n' := fun j h1 h2 => ⟨j - s, by omega, by omega, by omega⟩
      rcases ent_spec ok' n' i hlt with ⟨a1, a2⟩ | ⟨j, a1, a2, a3, a4, a5, a6⟩ <;> rcases ent_spec ok n (i + s) (by omega) with ⟨b1, b2⟩ | ⟨j0, b1, b2, b3, b4, b5, b6⟩
      · rw [a1, b1]; exact ⟨rfl, fun h0 => absurd h0 (by show ¬ (0 : Int) ≤ -1; omega)⟩
      · obtain ⟨j', rfl, c1, c2⟩ := hb j0 b1 b2
        rcases a2 j' c1 c2 with h1 | h1
        · rw [ih' j' c1 c2] at h1; omega
        · rw [h, b4] at h1; cases h1
      · rcases b2 (j + s) (by omega) (by omega) with h1 | h1
        · rw [← ih' j a1 a2] at h1; omega
        · rw [← h, a4] at h1; cases h1
      · obtain ⟨j', rfl, c1, c2⟩ := hb j0 b1 b2
        have h1 := a6 j' c1 c2 (by rw [ih' j' c1 c2]; exact b3) (by rw [h]; exact b4)
        have h2 := b6 (j + s) (by omega) (by omega) (by rw [← ih' j a1 a2]; exact a3) (by rw [← h]; exact a4)
        rw [ih' j a1 a2, ih' j' c1 c2] at h1
        have h3 := h1.2 (by omega)
        have h4 := h2.2 (by omega)
        obtain rfl : j' = j := by omega
        rw [a5, b5, ih' j' a1 a2]
        exact ⟨rfl, fun _ _ => by show ((j' + s : Nat) : Int) = (j' : Int) + s; omega⟩
    · obtain rfl : i = n' := by omega
      rw [hn, ent_n, ent_n]
      exact ⟨rfl, fun _ h => absurd h (by omega)⟩
theorem path_fuel (ok : Nat → Nat → Bool) (n : Nat) : ∀ (f f' i : Nat), n - i ≤ f → n - i ≤ f' → i ≤ n → 0 ≤ (ent ok n i).1 → path ok n f i = path ok n f' i
  | 0, f', i, h1, h2, hi, _ => by
    obtain rfl : i = n := by omega
    cases f' <;> simp [path]
  | f + 1, 0, i, h1, h2, hi, _ => by
    obtain rfl : i = n := by omega
    simp [path]
  | f + 1, f' + 1, i, h1, h2, hi, h0 => by
    unfold path
    split
    · rename_i hlt
      rcases ent_spec ok n i hlt with ⟨a1, _⟩ | ⟨j, a1, a2, a3, a4, a5, _⟩
      · rw [a1] at h0; exact absurd h0 (by show ¬ (0 : Int) ≤ -1; omega)
      · rw [a5]
        show _ :: path ok n f j = _ :: path ok n f' j
        rw [path_fuel ok n f f' j (by omega) (by omega) a2 a3]
    · rfl
theorem path_shift {ok ok' : Nat → Nat → Bool} {n n' s : Nat} (hn : n' + s = n) (h : ∀ i j, ok' i j = ok (i + s) (j + s)) : ∀ (f i : Nat), i ≤ n' → 0 ≤ (ent ok' n' i).1 → path ok n f (i + s) = (path ok' n' f i).map (· + (s : Int))
  | 0, _, _, _ => rfl
  | f + 1, i, hi, h0 => by
    obtain ⟨e1, e2⟩ := ent_shift hn h _ i rfl hi
    unfold path
    by_cases hlt : i < n'
    · rw [if_pos hlt, if_pos (by omega), List.map_cons]
      rcases ent_spec ok' n' i hlt with ⟨a1, _⟩ | ⟨j, a1, a2, a3, a4, a5, _⟩
      · rw [a1] at h0; exact absurd h0 (by show ¬ (0 : Int) ≤ -1; omega)
      · have e3 := e2 h0 hlt
        rw [a5] at e3 ⊢
        rw [e3]
        show _ :: path ok n f ((j : Int) + s).toNat = _ :: (path ok' n' f j).map _
        rw [show ((j : Int) + s).toNat = j + s by omega, path_shift hn h f j a2 a3]
    · rw [if_neg hlt, if_neg (by omega)]; rfl
theorem oks_shift {c : List (List Int)} {b : List Bool} {m : Int} {n n' s : Nat} (hn : n' + s = n) (i j : Nat) : oks (fromC c s) (b.drop s) m n' i j = oks c b m n (i + s) (j + s) := by
  have h1 : cst (fromC c s) i j = cst c (i + s) (j + s) := by
    simp only [cst, fromC, List.getD, List.getElem?_map, List.getElem?_drop]
    rw [Nat.add_comm s i]
    cases c[i + s]? with
    | none => simp
    | some r => simp [List.getElem?_drop, Nat.add_comm]
  have h2 : (b.drop s).getD j false = b.getD (j + s) false := by
    simp [List.getD, List.getElem?_drop, Nat.add_comm]
  have h3 : decide (j = n') = decide (j + s = n) := by
    by_cases h : j = n'
    · rw [decide_eq_true h, decide_eq_true (by omega)]
    · rw [decide_eq_false h, decide_eq_false (by omega)]
  simp only [oks, h1, h2, h3]
theorem shp_from {c : List (List Int)} {n n' s : Nat} (hn : n' + s = n) (hs : shp c n = true) : shp (fromC c s) n' = true := by
  obtain ⟨h1, h2⟩ := shp_iff.1 hs
  refine shp_iff.2 ⟨by simp; omega, fun r hr => ?_⟩
  simp only [fromC, List.mem_map] at hr
  obtain ⟨r0, hr0, rfl⟩ := hr
  have := h2 r0 (List.mem_of_mem_drop hr0)
  simp; omega
theorem chain_bd {ok : Nat → Nat → Bool} {n : Nat} : ∀ (E : List Int) (f : Nat), chain ok n f E → ∀ x ∈ E, 0 ≤ x ∧ x ≤ n
  | [], _, _, x, hx => by simp at hx
  | e :: r, f, ⟨h1, h2, _, h4⟩, x, hx => by
    rcases List.mem_cons.1 hx with rfl | hx
    · exact ⟨by omega, h2⟩
    · exact chain_bd r _ h4 x hx
set_option maxHeartbeats 1000000 in
theorem Parts_fn (lv : List Int) (bg : List Bool) (an : List Int) (mo : Int) (hl : lv.length ≤ maxLen) (hbg : bg.length ≤ maxLen) (ha : an.length ≤ maxLen) (hmo : 0 ≤ mo ∧ mo ≤ 255) :
    Am.Fn Try.prog 6 [0] [RawP lv bg an mo] (.bool true) := by
  obtain ⟨c, b, m, ⟨hs, hb9, hm1, hm6⟩, hM⟩ := Made_fn lv bg an mo hl hbg ha hmo
  obtain ⟨n, hn⟩ : ∃ n, b.length = n := ⟨_, rfl⟩
  have hcl : c.length = n := by rw [(shp_iff.1 hs).1, hn]
  have hcm : c.length ≤ maxLen := by unfold maxLen; omega
  have hbm : b.length < maxLen := by unfold maxLen; omega
  have hSp := Split_fn c b m hcm (by omega) hm1
  rw [splitP, if_pos hs, splitR] at hSp
  obtain ⟨ok, hok⟩ : ∃ ok, oks c b m b.length = ok := ⟨_, rfl⟩
  have hfi : ∀ E, fits c b m E = true ↔ chain ok n 0 E := fun E => by rw [fits_iff hs, hok, hn]
  rw [hok, hn] at hSp
  refine fn_introX mixed (X := X6) c6 11 (by simp [X6]) fun Q hR hN => ?_
  simp [X6, r_nil]
  refine call_of sanity_fn ?_
  simp [callOk, r_nil, storeP]
  refine call_of hM ?_
  have tkL : List.take n (List.map L c) = List.map L c := List.take_of_length_le (by simp [hcl])
  have tkb : List.take n (List.map PV.bool b) = List.map PV.bool b := List.take_of_length_le (by simp [hn])
  simp [callOk, r_nil, storeP, hcl, hn, tkL, tkb, frzUL]
  refine call_of hSp ?_
  by_cases h0 : (ent ok n 0).1 < 0
  · rw [if_pos h0]
    simp [callOk, r_nil, storeP]
    refine hR _ _ ?_
    simp [X6, fin]
  · rw [if_neg h0]
    obtain ⟨hc1, hc2⟩ := path_chain ok n n 0 (by omega) (Nat.zero_le _) (by omega)
    obtain ⟨A, hA⟩ : ∃ A, path ok n n 0 = A := ⟨_, rfl⟩
    rw [hA] at hc1 hc2 ⊢
    have hAn : A.length ≤ n := by have := (ent_le ok n n 0 rfl (Nat.zero_le _)).2; omega
    by_cases hA2 : (A.length : Int) < 2
    · simp [callOk, r_nil, storeP, hA2]
      refine hR _ _ ?_
      simp [X6, fin]
    · have hfA := Fits_fn c b m A hcm hbm (by unfold maxLen; omega)
      rw [(hfi A).2 hc1] at hfA
      have hA0 : 0 < A.length := by omega
      -- the first volume
      have hnp : 0 < n := by omega
      rcases ent_spec ok n 0 hnp with ⟨a1, _⟩ | ⟨s, a1, a2, a3, a4, a5, _⟩
      · rw [a1] at h0; exact absurd (show (-1 : Int) < 0 by omega) h0
      · obtain ⟨f, hf⟩ : ∃ f, n = f + 1 := ⟨n - 1, by omega⟩
        have hA' : A = (s : Int) :: path ok n f s := by
          rw [← hA]
          have : path ok n n 0 = path ok n (f + 1) 0 := by rw [hf]
          rw [this, path, if_pos hnp, a5]; rfl
        obtain ⟨n', hn'⟩ : ∃ n', n' + s = n := ⟨n - s, by omega⟩
        obtain ⟨c2, hc2'⟩ : ∃ c2, fromC c s = c2 := ⟨_, rfl⟩
        obtain ⟨b2, hb2⟩ : ∃ b2, b.drop s = b2 := ⟨_, rfl⟩
        have hb2l : b2.length = n' := by rw [← hb2]; simp [hn]; omega
        have hs2 : shp c2 b2.length = true := by rw [hb2l, ← hc2']; exact shp_from hn' (hn ▸ hs)
        have hc2l : c2.length = n' := by rw [(shp_iff.1 hs2).1, hb2l]
        have hFr := From_fn c b m s n hn (hn ▸ hs) a2 (by omega)
        rw [hc2', hb2] at hFr
        have hS2 := Split_fn c2 b2 m (by unfold maxLen; omega) (by omega) hm1
        rw [splitP, if_pos hs2, splitR] at hS2
        obtain ⟨ok2, hok2⟩ : ∃ ok2, oks c2 b2 m b2.length = ok2 := ⟨_, rfl⟩
        have hsh : ∀ i j, ok2 i j = ok (i + s) (j + s) := fun i j => by
          rw [← hok2, ← hok, ← hc2', ← hb2]
          rw [show (b.drop s).length = n' by rw [hb2, hb2l], hn]
          exact oks_shift hn' i j
        rw [hok2, hb2l] at hS2
        have e1 := (ent_shift hn' hsh _ 0 rfl (Nat.zero_le _)).1
        rw [Nat.zero_add] at e1
        have h2 : ¬ (ent ok2 n' 0).1 < 0 := by omega
        rw [if_neg h2] at hS2
        obtain ⟨B, hB⟩ : ∃ B, path ok2 n' n' 0 = B := ⟨_, rfl⟩
        rw [hB] at hS2
        have hAB : path ok n f s = B.map (· + (s : Int)) := by
          rw [path_fuel ok n f n' s (by omega) (by omega) a2 a3]
          have := path_shift hn' hsh n' 0 (Nat.zero_le _) (by omega)
          rw [Nat.zero_add] at this
          rw [this, hB]
        rw [hAB] at hA'
        have hlen : A.length = B.length + 1 := by rw [hA']; simp
        have hA00 : A[0] = (s : Int) := by simp [hA']
        have tkL2 : List.take n' (List.map L c2) = List.map L c2 := List.take_of_length_le (by simp [hc2l])
        have tkb2 : List.take n' (List.map PV.bool b2) = List.map PV.bool b2 := List.take_of_length_le (by simp [hb2l])
        have frzL : frzE ∘ L = L := rfl
        have w1 : IntKind.i64.wrap ((A.length : Int) - 1) = (B.length : Int) := by rw [wrap_ok (by omega) (by omega)]; omega
        simp [callOk, r_nil, storeP, hA2, hcl, hn, tkL, tkb, frzUL, take_ml]
        refine call_of hfA ?_
        simp [callOk, r_nil, storeP, hA2, hcl, hn, tkL, tkb, frzUL, take_ml, hA0, hA00]
        refine call_of hFr ?_
        simp [callOk, r_nil, storeP, hA2, hcl, hn, tkL2, tkb2, hc2l, hb2l, frzL]
        refine call_of hS2 ?_
        simp [callOk, r_nil, storeP, w1]
        refine loopX (fun (k : Nat) vs h => k ≤ B.length ∧
          vs = [.undef, .undef, .undef, .bool true, .undef, .own 9 1 A.length 1 0 A.length, .undef, .undef, .own 10 1 B.length 1 0 B.length, .undef, I k, .undef, .undef, .undef, .undef] ∧
          h = List.replicate 9 (0, .dead) ++ [(1, .arr 1 0 false (A.map I)), (1, .arr 1 0 false (B.map I))]) (fun k => B.length - k) 0 ?_ ?_
        · simp [settled, settled, storeP]
        · rintro k vs h ⟨k1, rfl, rfl⟩ Q hK hX hR'
          by_cases hk : k < B.length
          · have hw : IntKind.i64.wrap ((k : Int) + 1) = ((k + 1 : Nat) : Int) := by rw [wrap_ok (by omega) (by omega)]; omega
            have hk1 : k + 1 < A.length := by omega
            have hx : A[k + 1] = B[k] + s := by simp [hA']
            have hb : IntKind.i64.wrap (B[k] + s) = B[k] + s := by
              obtain ⟨hq1, hq2⟩ : 0 ≤ B[k] ∧ B[k] ≤ n' := by
                have hch := (path_chain ok2 n' n' 0 (by omega) (Nat.zero_le _) (by omega)).1
                rw [hB] at hch
                exact chain_bd _ _ hch _ (List.getElem_mem hk)
              exact wrap_ok (by omega) (by omega)
            have z1 : (0 : Int) ≤ (k : Int) + 1 := by omega
            have z2 : (k : Int) + 1 < A.length := by omega
            simp [r_nil, storeP, hk, hk1, hA0, hA00, hx, hb, hw, z1, z2]
            refine hK (k + 1) _ _ (by omega) ?_
            simp [settled, settled, storeP]
            omega
          · simp [r_nil, storeP, hk]
            refine hX _ _ _ ?_
            simp [r_nil, storeP]
            refine hR _ _ ?_
            simp [X6, fin]
end Go.Proofs.Ytnipkbhgaljcoaa.V
