/-
  Chapter 26, plain: performing a plan yields the plate.
-/
import Derived.Test.YtalgbgeocpbadaaQKrA
namespace Go.Proofs.Ytalgbgeocpbadaa.K
set_option linter.unusedSimpArgs false
set_option linter.unusedVariables false
set_option linter.unusedSectionVars false
open Go.Proofs.Ytalgbgeocpbadaa.Am
theorem risG_of {w : Int} : ∀ {l : List Int} {last : Int}, l.Pairwise (· < ·) → (∀ x ∈ l, last < x ∧ x < w) → risG w last l = true
  | [], _, _, _ => rfl
  | x :: l, last, hp, hb => by
    rw [List.pairwise_cons] at hp
    obtain ⟨h1, h2⟩ := hb x List.mem_cons_self
    simp only [risG, Bool.and_eq_true, decide_eq_true_eq]
    exact ⟨⟨h1, h2⟩, risG_of hp.2 fun z hz => ⟨hp.1 z hz, (hb z (List.mem_cons_of_mem _ hz)).2⟩⟩
theorem ris_of {w : Int} {l : List Int} (hp : l.Pairwise (· < ·)) (hb : ∀ x ∈ l, 0 ≤ x ∧ x < w) : ris w l = true := risG_of hp fun x hx => by have := hb x hx; omega
theorem posG_pw (off : Nat) : ∀ (r : List Bool) (x : Nat), (posG off x r).Pairwise (· < ·)
  | [], x => List.Pairwise.nil
  | b :: r, x => by
    unfold posG; split
    · refine List.pairwise_cons.2 ⟨fun z hz => ?_, posG_pw off r (x + 1)⟩
      obtain ⟨k, h1, _⟩ := posG_mem _ _ _ _ hz
      omega
    · exact posG_pw off r (x + 1)
theorem cols_pw {w : Nat} {u d : List Bool} (hu : u.length = w) : (cols w u d).Pairwise (· < ·) := by
  refine List.pairwise_append.2 ⟨posG_pw _ _ _, posG_pw _ _ _, fun a ha b hb => ?_⟩
  obtain ⟨k, h1, h2⟩ := posG_mem _ _ _ _ ha
  obtain ⟨j, h3, _⟩ := posG_mem _ _ _ _ hb
  have := (List.getElem?_eq_some_iff.1 h2).1
  omega
theorem chunkG_sub {α : Type} {n : Nat} : ∀ (f : Nat) (l : List α) (c : List α), c ∈ chunkG n f l → c.Sublist l
  | 0, l, c, h => by simp [chunkG] at h
  | f + 1, l, c, h => by
    simp only [chunkG] at h
    split at h
    · simp at h
    · rcases List.mem_cons.1 h with rfl | h
      · exact List.take_sublist _ _
      · exact (chunkG_sub f _ c h).trans (List.drop_sublist _ _)
theorem chunkG_flat {α : Type} {n : Nat} (hn : 1 ≤ n) : ∀ (f : Nat) (l : List α), l.length ≤ f → (chunkG n f l).flatten = l
  | 0, l, h => by rw [List.eq_nil_of_length_eq_zero (by omega : l.length = 0)]; rfl
  | f + 1, l, h => by
    simp only [chunkG]
    split
    · rename_i e; subst e; rfl
    · rename_i hl
      have hl' : 0 < l.length := List.length_pos_iff.2 hl
      rw [List.flatten_cons, chunkG_flat hn f _ (by rw [List.length_drop]; omega), List.take_append_drop]
theorem chunk_flat {α : Type} {n : Nat} (hn : 1 ≤ n) (l : List α) : (chunk n l).flatten = l := chunkG_flat hn _ _ (Nat.le_refl _)
theorem struck_poss {w h y : Nat} {c l : List Int} (hs : c.Sublist l) (hp : l.Pairwise (· < ·)) (hb : ∀ x ∈ l, 0 ≤ x ∧ x < 2 * (w : Int)) (hy : y < h) : poss w h (struck y w c) = true := by
  have hpc := hp.sublist hs
  simp only [poss, Bool.and_eq_true, decide_eq_true_eq]
  refine ⟨⟨⟨by simp [struck], by simp [struck, hy]⟩, ris_of (hpc.filter _) fun x hx => ?_⟩, ris_of ?_ fun x hx => ?_⟩
  · obtain ⟨h1, h2⟩ := List.mem_filter.1 hx
    have := hb x (hs.subset h1)
    simp at h2
    omega
  · refine List.pairwise_map.2 ((hpc.filter _).imp fun h => by omega)
  · obtain ⟨z, hz, rfl⟩ := List.mem_map.1 hx
    obtain ⟨h1, h2⟩ := List.mem_filter.1 hz
    have := hb z (hs.subset h1)
    simp at h2
    omega
theorem raiseR_append (r : List Bool) (a b : List Int) : raiseR r (a ++ b) = raiseR (raiseR r a) b := List.foldl_append
theorem modR_append (d : List (List Bool)) (k : Nat) (a b : List Int) : modR d k (a ++ b) = modR (modR d k a) k b := by
  refine List.ext_getElem? fun i => ?_
  simp only [modR, List.getElem?_modify]
  split <;> cases d[i]? <;> simp [raiseR_append]
theorem modR_nilA {d : List (List Bool)} {k : Nat} : modR d k [] = d := by
  refine List.ext_getElem? fun i => ?_
  unfold modR
  rw [List.getElem?_modify]
  split <;> cases d[i]? <;> rfl
/-- strikes of one row -/
theorem apply_row {w h y : Nat} : ∀ (l r : List Stk) (k : Nat) (U D : List (List Bool)), (∀ s ∈ l, s.row = y ∧ poss w h s = true) →
    applyG w h k U D (l ++ r) = applyG w h (k + l.length) (modR U y (l.flatMap (·.up))) (modR D y (l.flatMap (·.down))) r
  | [], r, k, U, D, _ => by simp [modR_nilA]
  | s :: l, r, k, U, D, hl => by
    obtain ⟨h1, h2⟩ := hl s List.mem_cons_self
    rw [List.cons_append, applyG, if_pos h2, h1, Int.toNat_natCast, apply_row l r (k + 1) _ _ fun s hs => hl s (List.mem_cons_of_mem _ hs)]
    rw [List.flatMap_cons, List.flatMap_cons, modR_append, modR_append, List.length_cons, show k + 1 + l.length = k + (l.length + 1) by omega]
theorem filter_posG_lt {w : Nat} {u d : List Bool} (hu : u.length = w) : (cols w u d).filter (· < (w : Int)) = posG 0 0 u := by
  rw [cols, List.filter_append, List.filter_eq_self.2, List.filter_eq_nil_iff.2, List.append_nil]
  · intro x hx
    obtain ⟨k, h1, h2⟩ := posG_mem _ _ _ _ hx
    simp; omega
  · intro x hx
    obtain ⟨k, h1, h2⟩ := posG_mem _ _ _ _ hx
    have := (List.getElem?_eq_some_iff.1 h2).1
    simp; omega
theorem posG_off (off : Nat) : ∀ (r : List Bool) (x : Nat), (posG off x r).map (· - (off : Int)) = posG 0 x r
  | [], x => rfl
  | b :: r, x => by
    unfold posG; split
    · rw [List.map_cons, posG_off off r (x + 1)]; congr 1; omega
    · exact posG_off off r (x + 1)
theorem filter_posG_ge {w : Nat} {u d : List Bool} (hu : u.length = w) : ((cols w u d).filter (fun n => decide ((w : Int) ≤ n))).map (· - (w : Int)) = posG 0 0 d := by
  rw [cols, List.filter_append, List.filter_eq_nil_iff.2, List.nil_append, List.filter_eq_self.2, posG_off]
  · intro x hx
    obtain ⟨k, h1, h2⟩ := posG_mem _ _ _ _ hx
    simp; omega
  · intro x hx
    obtain ⟨k, h1, h2⟩ := posG_mem _ _ _ _ hx
    have := (List.getElem?_eq_some_iff.1 h2).1
    simp; omega
theorem flat_up (y : Int) (w : Nat) : ∀ cs : List (List Int), (cs.map (struck y w)).flatMap (·.up) = cs.flatten.filter (· < (w : Int))
  | [] => rfl
  | c :: cs => by rw [List.map_cons, List.flatMap_cons, flat_up y w cs, List.flatten_cons, List.filter_append]; rfl
theorem flat_down (y : Int) (w : Nat) : ∀ cs : List (List Int), (cs.map (struck y w)).flatMap (·.down) = (cs.flatten.filter (fun n => decide ((w : Int) ≤ n))).map (· - (w : Int))
  | [] => rfl
  | c :: cs => by rw [List.map_cons, List.flatMap_cons, flat_down y w cs, List.flatten_cons, List.filter_append, List.map_append]; rfl
theorem planRow_up {w n y : Nat} {u d : List Bool} (hn : 1 ≤ n) (hu : u.length = w) : (planRow w n y u d).flatMap (·.up) = posG 0 0 u := by
  rw [planRow, flat_up, chunk_flat hn, filter_posG_lt hu]
theorem planRow_down {w n y : Nat} {u d : List Bool} (hn : 1 ≤ n) (hu : u.length = w) : (planRow w n y u d).flatMap (·.down) = posG 0 0 d := by
  rw [planRow, flat_down, chunk_flat hn, filter_posG_ge hu]
theorem planRow_poss {w h n y : Nat} {u d : List Bool} (hu : u.length = w) (hd : d.length = w) (hy : y < h) : ∀ s ∈ planRow w n y u d, s.row = y ∧ poss w h s = true := fun s hs => by
  obtain ⟨c, hc, rfl⟩ := List.mem_map.1 hs
  exact ⟨rfl, struck_poss (chunkG_sub _ _ _ hc) (cols_pw hu) (cols_bound hu hd) hy⟩
theorem raiseR_cons (r : List Bool) (x : Int) (l : List Int) : raiseR r (x :: l) = raiseR (r.set x.toNat true) l := rfl
theorem raise_blank : ∀ (u A : List Bool), raiseR (A ++ List.replicate u.length false) (posG 0 A.length u) = A ++ u
  | [], A => by simp [posG, raiseR]
  | b :: u, A => by
    have ih := raise_blank u (A ++ [b])
    rw [List.length_append, List.append_assoc, List.append_assoc] at ih
    unfold posG; split
    · rename_i hb; subst hb
      rw [raiseR_cons]
      rw [show (A ++ List.replicate (true :: u).length false).set (((0 + A.length : Nat) : Int)).toNat true = A ++ ([true] ++ List.replicate u.length false) by
        rw [Int.toNat_natCast, Nat.zero_add, List.set_append_right _ _ (Nat.le_refl _), Nat.sub_self]; rfl]
      exact ih
    · rename_i hb
      have hb : b = false := by simpa using hb
      subst hb
      exact ih
theorem modR_mid {A C : List (List Bool)} {r : List Bool} {l : List Int} : modR (A ++ r :: C) A.length l = A ++ raiseR r l :: C := by
  unfold modR
  induction A with
  | nil => simp
  | cons a A ih => simpa using ih
theorem apply_plan {w h n : Nat} (hn : 1 ≤ n) : ∀ (us ds A B : List (List Bool)) (k : Nat), us.length = ds.length → A.length = B.length → A.length + us.length ≤ h → (∀ r ∈ us, r.length = w) → (∀ r ∈ ds, r.length = w) →
    applyG w h k (A ++ List.replicate us.length (List.replicate w false)) (B ++ List.replicate ds.length (List.replicate w false)) (planG w n A.length us ds) = ⟨w, h, A ++ us, B ++ ds, ((k + (planG w n A.length us ds).length : Nat) : Int), 0⟩
  | [], [], A, B, k, _, _, _, _, _ => by simp [planG, applyG]
  | [], _ :: _, _, _, _, h1, _, _, _, _ => by simp at h1
  | _ :: _, [], _, _, _, h1, _, _, _, _ => by simp at h1
  | u :: us, d :: ds, A, B, k, h1, h2, h3, hu, hd => by
    have lu := hu u List.mem_cons_self
    have ld := hd d List.mem_cons_self
    have b1 : raiseR (List.replicate w false) (posG 0 0 u) = u := by have := raise_blank u []; rw [lu] at this; exact this
    have b2 : raiseR (List.replicate w false) (posG 0 0 d) = d := by have := raise_blank d []; rw [ld] at this; exact this
    simp only [List.length_cons] at h1 h3
    have hp := planRow_poss (n := n) (h := h) (y := A.length) lu ld (by omega)
    rw [planG, apply_row _ _ _ _ _ hp, planRow_up hn lu, planRow_down hn lu]
    rw [List.length_cons, List.length_cons, List.replicate_succ, List.replicate_succ, modR_mid, b1]
    conv => lhs; rw [h2, modR_mid, b2, ← h2]
    have i1 : us.length = ds.length := by omega
    have i2 : (A ++ [u]).length = (B ++ [d]).length := by simp [h2]
    have i3 : (A ++ [u]).length + us.length ≤ h := by rw [List.length_append, List.length_singleton]; omega
    have ih := apply_plan (w := w) (h := h) hn us ds (A ++ [u]) (B ++ [d]) (k + (planRow w n A.length u d).length) i1 i2 i3 (fun r hr => hu r (List.mem_cons_of_mem _ hr)) (fun r hr => hd r (List.mem_cons_of_mem _ hr))
    rw [List.length_append, List.append_assoc, List.append_assoc, List.append_assoc, List.append_assoc] at ih
    rw [List.length_append, ← Nat.add_assoc]
    exact ih
theorem applyO_plan {w h n : Nat} {u d : List (List Bool)} (M : Mad w h u d) (hn : 1 ≤ n) : applyO w h (planG w n 0 u d) = ⟨w, h, u, d, ((planG w n 0 u d).length : Nat), 0⟩ := by
  have hv := M.valid
  simp only [validB, Bool.and_eq_true] at hv
  unfold applyO
  rw [if_pos hv.1.1, Int.toNat_natCast, Int.toNat_natCast]
  have h1 := apply_plan (w := w) (h := h) hn u d [] [] 0 (by rw [M.lu, M.ld]) rfl (by rw [M.lu]; simp) M.wu M.wd
  rw [M.lu, M.ld, Nat.zero_add] at h1
  exact h1
end Go.Proofs.Ytalgbgeocpbadaa.K
