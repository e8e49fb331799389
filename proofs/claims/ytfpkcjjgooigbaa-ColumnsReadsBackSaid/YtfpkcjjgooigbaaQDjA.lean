/-
  Chapter 20: a list is read.
-/
import Derived.Test.YtfpkcjjgooigbaaQDiA
import Derived.Test.YtfpkcjjgooigbaaQLhA
namespace Go.Proofs.Ytfpkcjjgooigbaa.C
set_option linter.unusedSimpArgs false
set_option linter.unusedVariables false
set_option linter.unusedSectionVars false
open Go.Proofs.Ytfpkcjjgooigbaa.Am
open Go.Proofs.Ytfpkcjjgooigbaa.L (mixed wrap_ok I U CL CLL UCL Word clean words zeros ic wd brk brkG longG indent)
set_option maxHeartbeats 8000000
theorem brE_ok {w : Nat} {rows : List Row} (M : Md rows) (hf : rows.all (fitR w) = true) {q k : Nat} (hq : q < rows.length) (hk : k < nc rows) : (brE w rows q k).length ≤ 201 ∧ ∀ x ∈ brE w rows q k, x.length ≤ w := by
  obtain ⟨h1, h2⟩ := ent_ok M hq hk
  have hl := md_row M (List.getElem_mem hq)
  have hk' : k < rows[q].length := by rw [hl.1]; exact hk
  have hf1 := (List.all_eq_true.1 hf) _ (List.getElem_mem hq)
  unfold fitR at hf1
  have hf2 := (List.all_eq_true.1 hf1) k (List.mem_range.2 hk')
  have e : rows[q].getD k [] = entAt rows q k := by rw [entAt_eq hq hk', List.getD_eq_getElem?_getD, List.getElem?_eq_getElem hk']; rfl
  rw [e] at hf2
  refine ⟨?_, fun x hx => (brk_lines h1 hf2 x hx).1⟩
  have a1 := brk_len w (4 * k) (4 * k + 2) (words (entAt rows q k))
  have a2 := words_len (entAt rows q k)
  unfold brE; omega
theorem restN_line {w : Nat} {rows : List Row} (M : Md rows) (hf : rows.all (fitR w) = true) {p : Nat × Nat} (hp : p.2 < nc rows) : ∀ x t, restN w rows p = x :: t → x.length ≤ w := by
  intro x t e
  unfold restN at e
  split at e
  · rename_i hq
    rw [rest_step M hq hp] at e
    obtain ⟨b, bs, e1, _⟩ := brE_lines (w := w) M hq hp
    have := (brE_ok M hf hq hp).2
    rw [e1] at e this
    simp only [List.cons_append, List.cons.injEq] at e
    rw [← e.1]; exact this b (by simp)
  · cases e
theorem flat_up {f : Row → List Word} {c : Nat} : ∀ {l : List Row}, (∀ r ∈ l, (f r).length ≤ c) → (l.map f).flatten.length ≤ l.length * c
  | [], _ => by simp
  | r :: l, h => by
    have h1 := h r (by simp)
    have h2 := flat_up (f := f) (c := c) (l := l) fun x hx => h x (by simp [hx])
    rw [List.map_cons, List.flatten_cons, List.length_append, List.length_cons, Nat.add_mul]; omega
theorem rest_len {w : Nat} {rows : List Row} (M : Md rows) {p : Nat × Nat} : (restN w rows p).length ≤ 100000 := by
  have E := M.ev'
  have c4 := E.c4
  have n4 := M.n4
  have h1 : ∀ r ∈ rows, (listPre w r r.length).length ≤ 4004 := fun r hr => by
    obtain ⟨j, hj, rfl⟩ := List.getElem_of_mem hr
    have h2 := listPre_len E (w := w) hj rows[j].length (Nat.le_refl _)
    have h3 := E.all j hj
    omega
  unfold restN
  split
  · rename_i hq
    unfold rest
    rw [List.length_append, List.length_drop, List.getD_eq_getElem?_getD, List.getElem?_eq_getElem hq, Option.getD_some]
    have h2 := h1 _ (List.getElem_mem hq)
    rw [E.all _ hq] at h2
    have h3 := flat_up (f := fun r => listPre w r r.length) (c := 4004) (l := rows.drop (p.1 + 1)) fun r hr => h1 r (List.mem_of_mem_drop hr)
    rw [List.length_drop] at h3
    have h4 : (rows.length - (p.1 + 1)) * 4004 ≤ 4 * 4004 := Nat.mul_le_mul_right _ (by omega)
    unfold listL
    omega
  · simp
theorem Read3a (rows : List Row) (M : Md rows) (w : Nat) (hw : w ≤ 60) (hf : rows.all (fitR w) = true) : Am.Fn Try.prog 28 [1, 0] [CLL (listL w rows), I (nc rows)] (.tup [.uslc (rows.map URW), .bool true]) := by
  have E := M.ev'
  obtain ⟨hp, h1, h4, ha, hl, he⟩ := id E
  have n4 := M.n4
  obtain ⟨n, hn⟩ : ∃ n, n = nc rows := ⟨_, rfl⟩
  rw [← hn] at h1 h4 ⊢
  have hln : rows.length * n ≤ 4 * 4 := Nat.mul_le_mul n4 h4
  have hn0 : ¬ n = 0 := by omega
  have hn0' : ¬ (n : Int) = 0 := by omega
  have hr0 : listL w rows = restN w rows (0, 0) := by
    unfold restN; rw [if_pos (show (0, 0).1 < rows.length from hp)]; exact (rest_all M).symm
  rw [hr0]
  refine fn_introX mixed (X := X28) c28 6 (by simp [X28]) fun Q hR hN => ?_
  simp [X28]
  refine loopX (fun (p : Nat × Nat) vs h => p.1 ≤ rows.length ∧ p.2 < n ∧ (p.1 = rows.length → p.2 = 0) ∧
    vs = [CLL (restN w rows p), I n, .undef, .undef, .own 1 1 (acc rows p.1 p.2).length 1 0 (acc rows p.1 p.2).length, I p.2, .undef, .undef, .undef, .undef, .undef, .undef] ∧ h = [dd, (1, .arr 1 0 false ((acc rows p.1 p.2).map URW)), dd, dd, dd, dd]) (fun p => rows.length * n - (p.1 * n + p.2)) (0, 0) ?_ ?_
  · simp [acc]
    omega
  · rintro ⟨q, k⟩ vs h ⟨g1, g2, g3, rfl, rfl⟩ Q1 hK hX hR'
    dsimp only at g1 g2 g3
    by_cases hq : q < rows.length
    · have hi : q * n + k < rows.length * n := by
        have : (q + 1) * n ≤ rows.length * n := Nat.mul_le_mul_right n (by omega)
        rw [Nat.add_mul] at this; omega
      have hst : restN w rows (q, k) = brE w rows q k ++ restN w rows (nxt n q k) := by
        rw [hn, ← rest_step M hq (by omega)]
        unfold restN; rw [if_pos (show (q, k).1 < rows.length from hq)]
      obtain ⟨b, bs, b1, b2, b3, b4⟩ := brE_lines (w := w) M hq (show k < nc rows by omega)
      obtain ⟨b5, b6⟩ := brE_ok M hf hq (show k < nc rows by omega)
      have hth := restN_head (w := w) M hq (show k < nc rows by omega)
      rw [← hn] at hth
      have hni : (nxt n q k).1 * n + (nxt n q k).2 = q * n + k + 1 ∧ (nxt n q k).1 ≤ rows.length ∧ (nxt n q k).2 < n ∧ ((nxt n q k).1 = rows.length → (nxt n q k).2 = 0) ∧ (nxt n q k).2 = (k + 1) % n := by
        unfold nxt
        split
        · rename_i hkn
          refine ⟨?_, by dsimp only; omega, by dsimp only; omega, fun _ => rfl, ?_⟩
          · show (q + 1) * n + 0 = q * n + k + 1
            rw [Nat.add_mul]; omega
          · dsimp only; rw [hkn, Nat.mod_self]
        · refine ⟨?_, by dsimp only; omega, by dsimp only; omega, fun h => by dsimp only at h; omega, ?_⟩
          · show q * n + (k + 1) = q * n + k + 1
            omega
          · dsimp only; rw [Nat.mod_eq_of_lt (by omega)]
      obtain ⟨m1, m2, m3, m4, m5⟩ := hni
      have htl := restN_line (p := nxt n q k) M hf (by omega)
      have hrl := rest_len (w := w) M (p := (q, k))
      rw [hst] at hrl ⊢
      obtain ⟨B, hB⟩ : ∃ B, B = brE w rows q k := ⟨_, rfl⟩
      obtain ⟨T, hT⟩ : ∃ T, T = restN w rows (nxt n q k) := ⟨_, rfl⟩
      rw [← hB] at b1 b4 b5 b6 hrl
      rw [← hT] at hth htl hrl
      rw [← hB, ← hT]
      have hBl : 0 < B.length := by rw [b1]; simp
      have hlen : (B ++ T).length = B.length + T.length := List.length_append
      have hBi : ∀ m (h : m < B.length), 1 ≤ m → indent B[m] = 4 * k + 2 := fun m hm hm1 => by
        obtain ⟨z, hz⟩ : ∃ z, z = B[m] := ⟨_, rfl⟩
        have h7 : B[m]? = some z := by rw [hz]; exact List.getElem?_eq_getElem hm
        rw [← hz]
        rw [b1] at h7
        obtain ⟨m', rfl⟩ : ∃ m', m = m' + 1 := ⟨m - 1, by omega⟩
        rw [List.getElem?_cons_succ] at h7
        exact b3 _ (List.mem_of_getElem? h7)
      obtain ⟨R, hRe⟩ : ∃ R, R = B ++ T := ⟨_, rfl⟩
      have r1 : R.length = B.length + T.length := by rw [hRe]; exact hlen
      have r2 : ∀ m (h : m < B.length), R[m]? = some B[m] := fun m hm => by rw [hRe, List.getElem?_append_left hm, List.getElem?_eq_getElem hm]
      have r3 : R.take B.length = B := by rw [hRe, List.take_left]
      have r4 : R.drop B.length = T := by rw [hRe, List.drop_left]
      have r5 : ∀ x t, T = x :: t → R[B.length]? = some x := fun x t e => by rw [hRe, e, List.getElem?_append_right (Nat.le_refl _), Nat.sub_self]; rfl
      rw [← hRe]
      rw [← hRe] at hrl
      have t0 : 0 < R.length := by omega
      have t1 : (0 : Int) < (R.length : Int) := by omega
      simp [t0, t1]
      refine loopX (fun (m : Nat) vs h => 1 ≤ m ∧ m ≤ B.length ∧
        vs = [CLL R, I n, .undef, .undef, .own 1 1 (acc rows q k).length 1 0 (acc rows q k).length, I k, I m, .undef, .undef, .undef, .undef, .undef] ∧ h = [dd, (1, .arr 1 0 false ((acc rows q k).map URW)), dd, dd, dd, dd]) (fun m => B.length - m) 1 ?_ ?_
      · simp
        omega
      · rintro m vs h ⟨q1, q2, rfl, rfl⟩ Q2 hK2 hX2 hR2
        have hI := indents_fn k (by omega)
        have w1 : IntKind.i64.wrap ((m : Int) + 1) = ((m + 1 : Nat) : Int) := wrap_ok (by omega) (by omega)
        by_cases hm : m < B.length
        · have hml : m < R.length := by omega
          have hg : R[m] = B[m] := by
            have := r2 m hm
            rw [List.getElem?_eq_getElem hml] at this; exact Option.some.inj this
          have hbl := b6 _ (List.getElem_mem hm)
          have hB1 := L.indentP_fn R[m] (by rw [hg]; unfold maxLen; omega)
          rw [hg, hBi m hm q1, ← hg] at hB1
          simp [hml]
          refine call_of hB1 ?_
          simp
          refine call_of hI ?_
          simp [w1]
          refine hK2 (m + 1) _ _ (by omega) ?_
          simp
          omega
        · obtain rfl : m = B.length := by omega
          have key : Q2 (XExit.exit 2) [CLL R, I n, .undef, .undef, .own 1 1 (acc rows q k).length 1 0 (acc rows q k).length, I k, I B.length, .undef, .undef, .undef, .bool false, .undef] [dd, (1, .arr 1 0 false ((acc rows q k).map URW)), dd, dd, dd, dd] := by
            refine hX2 _ _ _ ?_
            have z1 : B.length ≤ R.length := by omega
            have z2 : List.take B.length (List.map CL R) = List.map CL B := by rw [← List.map_take, r3]
            have z3 : List.drop B.length (List.map CL R) = List.map CL T := by rw [← List.map_drop, r4]
            have z4 : List.take (R.length - B.length) (List.map CL T) = List.map CL T := List.take_of_length_le (by simp; omega)
            have hJ := L.joinP_fn B (4 * k) (4 * k + 2) (by omega) (by omega) (by omega) (fun x hx => by have := b6 x hx; omega)
            obtain ⟨x, hx⟩ : ∃ x, x = entAt rows q k := ⟨_, rfl⟩
            have hBne : ¬ B = [] := List.length_pos_iff.1 hBl
            unfold L.joinR at hJ
            rw [if_neg hBne, b4, ← hx] at hJ
            dsimp only at hJ
            have hmod : (((k + 1 : Nat) : Int)).tmod n = (((nxt n q k).2 : Nat) : Int) := by
              rw [Int.tmod_eq_emod_of_nonneg (by omega), m5]; simp
            have w2 : IntKind.i64.wrap ((k : Int) + 1) = ((k + 1 : Nat) : Int) := wrap_ok (by omega) (by omega)
            have w3 : IntKind.i64.wrap (((nxt n q k).2 : Nat) : Int) = ((nxt n q k).2 : Nat) := wrap_ok (by omega) (by omega)
            have ec1 : ((4 * k : Nat) : Int) = 4 * (k : Int) := by omega
            have ec2 : ((4 * k + 2 : Nat) : Int) = 4 * (k : Int) + 2 := by omega
            rw [ec1, ec2] at hJ
            have hnx := acc_nxt E hq (show k < nc rows by omega)
            rw [← hn] at hnx
            have hkl : k < rows[q].length := by rw [ha q hq]; omega
            have hxe : x = rows[q][k] := by rw [hx, entAt_eq hq hkl]
            rw [List.take_succ_eq_append_getElem hkl, ← hxe] at hnx
            simp [z1, z2, z3, z4]
            refine call_of hI ?_
            simp
            refine call_of hJ ?_
            simp
            by_cases hk0 : k = 0
            · subst hk0
              have hac : acc rows q 0 = rows.take q := acc_zero q
              rw [hac]
              have hP := fun r0 => place0_fi (rows.take q) x r0 (by rw [List.length_take]; omega)
              rw [List.take_zero, List.nil_append] at hnx
              obtain ⟨A, hA⟩ : ∃ A, A = rows.take q := ⟨_, rfl⟩
              rw [← hA] at hP hnx ⊢
              simp only [Int.natCast_zero]
              refine callv_of (hP _) ?_
              have hmod0 : (1 : Int).tmod n = (((nxt n q 0).2 : Nat) : Int) := by simpa using hmod
              have w20 : IntKind.i64.wrap 1 = 1 := rfl
              simp [z1, z3, z4, hn0, hn0', hmod0, w20]
              refine hK (nxt n q 0) _ _ (by dsimp only; omega) ?_
              rw [hnx, ← hT]
              simp [m2, m3]
              exact m4
            · have hac := acc_pos hq hk0
              rw [hac]
              have hP := fun r0 => place1_fi (rows.take q) (rows[q].take k) x k r0 (by rw [List.length_take]; omega) (by rw [List.length_take]; omega) (by rw [List.length_take]; omega) (by omega)
              obtain ⟨A, hA⟩ : ∃ A, A = rows.take q := ⟨_, rfl⟩
              obtain ⟨C, hC⟩ : ∃ C, C = rows[q].take k := ⟨_, rfl⟩
              rw [← hA, ← hC] at hP hnx ⊢
              simp only [List.length_append, List.length_cons, List.length_nil, List.map_append, List.map_cons, List.map_nil, Nat.zero_add]
              refine callv_of (hP _) ?_
              simp [z1, z3, z4, hn0, hn0', w2, hmod]
              refine hK (nxt n q k) _ _ (by dsimp only; omega) ?_
              rw [hnx, ← hT]
              simp [m2, m3]
              exact ⟨m4, by rw [← hmod]; simp⟩
          by_cases hTe : T = []
          · have hml : ¬ B.length < R.length := by rw [r1, hTe]; simp
            simp [hml]
            exact key
          · obtain ⟨x, t, hxt⟩ : ∃ x t, T = x :: t := by
              cases hTT : T with
              | nil => exact absurd hTT hTe
              | cons x t => exact ⟨x, t, rfl⟩
            have hml : B.length < R.length := by rw [r1, hxt]; simp
            have hg : R[B.length] = x := by
              have := r5 x t hxt
              rw [List.getElem?_eq_getElem hml] at this; exact Option.some.inj this
            have hxl := htl x t hxt
            have hB1 := L.indentP_fn R[B.length] (by rw [hg]; unfold maxLen; omega)
            have hne := hth x t hxt
            rw [← hg] at hne
            have hne' : ¬ ((indent R[B.length] : Int) = 4 * (k : Int) + 2) := by omega
            generalize indent R[B.length] = d at hB1 hne hne'
            simp [hml]
            refine call_of hB1 ?_
            simp
            refine call_of hI ?_
            simp [hne, hne']
            exact key
    · obtain rfl : q = rows.length := by omega
      have hk0 := g3 rfl
      subst hk0
      have hac : acc rows rows.length 0 = rows := by rw [acc_zero, List.take_length]
      have hrn : restN w rows (rows.length, 0) = [] := by unfold restN; rw [if_neg (by simp)]
      dsimp only
      rw [hac, hrn]
      simp
      refine hX _ _ _ ?_
      simp
      refine hR _ _ ?_
      simp [X28]
end Go.Proofs.Ytfpkcjjgooigbaa.C
