/-
  Chapter 27, plain: what a plan consists of.
-/
import Derived.Test.YtgdcogoacnghkaaQOaP
import Derived.Test.YtgdcogoacnghkaaQOaA
namespace Go.Proofs.Ytgdcogoacnghkaa.N
set_option linter.unusedSimpArgs false
set_option linter.unusedVariables false
set_option linter.unusedSectionVars false
open Go.Proofs.Ytgdcogoacnghkaa.Am
theorem chunkG_mem {α : Type} {n : Nat} : ∀ (f : Nat) (l : List α) (c : List α), c ∈ chunkG n f l → c.length ≤ n ∧ ∀ x ∈ c, x ∈ l
  | 0, l, c, h => by simp [chunkG] at h
  | f + 1, l, c, h => by
    simp only [chunkG] at h
    split at h
    · simp at h
    · rcases List.mem_cons.1 h with rfl | h
      · exact ⟨by rw [List.length_take]; omega, fun x hx => List.mem_of_mem_take hx⟩
      · obtain ⟨h1, h2⟩ := chunkG_mem f _ c h
        exact ⟨h1, fun x hx => List.mem_of_mem_drop (h2 x hx)⟩
theorem struck_ok {y : Nat} {n : Nat} {c : List Int} (hy : y < 12) (hn : n ≤ 64) (hl : c.length ≤ n) (hb : ∀ x ∈ c, 0 ≤ x ∧ x < 96) : Stk48 (struck y 48 c) := by
  refine ⟨⟨by simp [struck], by simp [struck]; omega⟩, ?_, ?_, fun x hx => ?_, fun x hx => ?_⟩
  · exact Nat.le_trans (List.length_filter_le _ _) (by omega)
  · simp only [struck, List.length_map]; exact Nat.le_trans (List.length_filter_le _ _) (by omega)
  · simp only [struck, List.mem_filter, decide_eq_true_eq] at hx
    have := hb x hx.1
    have h2 : x < 48 := by simpa using hx.2
    omega
  · simp only [struck, List.mem_map, List.mem_filter, decide_eq_true_eq] at hx
    obtain ⟨z, ⟨h1, h2⟩, rfl⟩ := hx
    have := hb z h1
    have h3 : 48 ≤ z := by simpa using h2
    omega
theorem planRow_ok {n y : Nat} {u d : List Bool} (hy : y < 12) (hn : n ≤ 64) (hu : u.length = 48) (hd : d.length = 48) : ∀ s ∈ planRow 48 n y u d, Stk48 s := fun s hs => by
  obtain ⟨c, hc, rfl⟩ := List.mem_map.1 hs
  obtain ⟨h1, h2⟩ := chunkG_mem _ _ _ hc
  exact struck_ok hy hn h1 fun x hx => by have := cols_bound hu hd x (h2 x hx); omega
theorem planG_ok {n : Nat} (hn : n ≤ 64) : ∀ {us ds : List (List Bool)} {y : Nat}, y + us.length ≤ 12 → Wid 48 us → Wid 48 ds → ∀ s ∈ planG 48 n y us ds, Stk48 s
  | u :: us, d :: ds, y, hy, hu, hd, s, h => by
    simp only [List.length_cons] at hy
    rcases List.mem_append.1 h with h | h
    · exact planRow_ok (by omega) hn (hu u List.mem_cons_self) (hd d List.mem_cons_self) s h
    · exact planG_ok hn (by omega) (fun r hr => hu r (List.mem_cons_of_mem _ hr)) (fun r hr => hd r (List.mem_cons_of_mem _ hr)) s h
  | [], _, _, _, _, _, s, h => by simp [planG] at h
  | _ :: _, [], _, _, _, _, s, h => by simp [planG] at h
theorem planG_len {w n : Nat} (hn : 1 ≤ n) : ∀ {u d : List (List Bool)} {y : Nat}, (∀ r ∈ u, r.length = w) → (∀ r ∈ d, r.length = w) → (planG w n y u d).length ≤ u.length * (2 * w)
  | u :: us, d :: ds, y, hu, hd => by
    have h1 := planG_len hn (u := us) (d := ds) (y := y + 1) (fun r hr => hu r (List.mem_cons_of_mem _ hr)) fun r hr => hd r (List.mem_cons_of_mem _ hr)
    have h2 := cols_len (hu u List.mem_cons_self) (hd d List.mem_cons_self)
    have h3 := chunk_len hn (cols w u d)
    simp only [planG, planRow, List.length_append, List.length_map, List.length_cons]
    rw [Nat.succ_mul]
    omega
  | [], _, _, _, _ => by simp [planG]
  | _ :: _, [], _, _, _ => by simp [planG]
theorem Mad.plan {u d : List (List Bool)} (m : Mad u d) {n : Nat} (hn : 1 ≤ n) (hn2 : n ≤ 64) : Plan48 (planG 48 n 0 u d) := by
  refine ⟨?_, planG_ok hn2 (by rw [m.lu]; omega) m.wu m.wd⟩
  have := planG_len hn (y := 0) m.wu m.wd
  rw [m.lu] at this
  omega
/-- what the embosser leaves has the plate's size -/
structure EmOk (s : Em) : Prop where
  mad : Mad s.u s.d
theorem strikeG_ok {s : Em} {k : Stk} (h : EmOk s) : EmOk (strikeG s k) := ⟨⟨by rw [← h.mad.lu]; exact hitR_len, by rw [← h.mad.ld]; exact hitR_len, hitR_wid h.mad.wu, hitR_wid h.mad.wd⟩⟩
theorem sufG_ok {s : Em} {l : List Tr} (h : EmOk s) : EmOk (sufG s l) := ⟨h.mad⟩
theorem runG_ok {l : List Tr} : ∀ {P : List Stk} {i : Nat} {s : Em}, EmOk s → EmOk (runG l i P s)
  | [], _, _, h => h
  | k :: P, i, s, h => by
    unfold runG
    split
    · exact sufG_ok h
    · exact runG_ok (strikeG_ok (sufG_ok h))
theorem makeG_ok (u d : List (List Bool)) (n : Nat) (worn : List Int) (l : List Tr) : Mad (makeG u d n worn l).u (makeG u d n worn l).d :=
  (runG_ok (s := startG worn) ⟨⟨blank_len _ _, blank_len _ _, wid_blank _ _, wid_blank _ _⟩⟩).mad
theorem runG_worn {l : List Tr} : ∀ {P : List Stk} {i : Nat} {s : Em}, (runG l i P s).worn.length ≤ s.worn.length + P.length * l.length
  | [], _, _ => by simp [runG]
  | k :: P, i, s => by
    unfold runG
    have h1 := (suf_len (trAt l i) s.slip s.worn).1
    have h2 := at_len l (i : Int)
    rw [at_trAt] at h2
    rw [List.length_cons, Nat.succ_mul]
    split
    · have : (sufG s (trAt l i)).worn = (suf (trAt l i) s.slip s.worn).2.2 := rfl
      rw [this]; omega
    · have h3 := runG_worn (l := l) (P := P) (i := i + 1) (s := strikeG (sufG s (trAt l i)) k)
      have : (strikeG (sufG s (trAt l i)) k).worn = (suf (trAt l i) s.slip s.worn).2.2 := rfl
      rw [this] at h3
      omega
theorem Mad.rws {u d : List (List Bool)} (m : Mad u d) : Rws u ∧ Rws d := ⟨⟨by rw [m.lu]; omega, fun r hr => by rw [m.wu r hr]; omega⟩, ⟨by rw [m.ld]; omega, fun r hr => by rw [m.wd r hr]; omega⟩⟩
theorem Mad.gval {u d : List (List Bool)} (m : Mad u d) : gvalB 48 12 u = true ∧ gvalB 48 12 d = true := by
  have hu : u.all (fun r => decide ((r.length : Int) = 48)) = true := List.all_eq_true.2 fun r hr => by rw [m.wu r hr]; rfl
  have hd : d.all (fun r => decide ((r.length : Int) = 48)) = true := List.all_eq_true.2 fun r hr => by rw [m.wd r hr]; rfl
  unfold gvalB
  rw [hu, hd, m.lu, m.ld]
  exact ⟨rfl, rfl⟩
theorem makeG_worn (u d : List (List Bool)) (n : Nat) (worn : List Int) (l : List Tr) (m : Mad u d) (hn : 1 ≤ n) (hn2 : n ≤ 64) (hw : worn.length ≤ 10) (hl : l.length ≤ 10) : (makeG u d n worn l).worn.length ≤ 100000 := by
  have h1 := runG_worn (l := l) (P := planG 48 n 0 u d) (i := 0) (s := startG worn)
  have h2 := (m.plan hn hn2).len
  have h3 : (planG 48 n 0 u d).length * l.length ≤ 1200 * 10 := Nat.mul_le_mul h2 hl
  have h4 : (startG worn).worn.length = worn.length := rfl
  unfold makeG
  omega
end Go.Proofs.Ytgdcogoacnghkaa.N
