/-
  .. append.
-/
import Derived.Test.YtalgbgeocpbadaaAmL
namespace Go.Proofs.Ytalgbgeocpbadaa.Am
set_option linter.unusedSimpArgs false
set_option linter.unusedVariables false
set_option linter.unusedSectionVars false
open Go.RowKit
section
variable {P : Program} {B : Nat} {Z0 : Nat → Prop} {G G' : Gh} {h h' : Heap} {w w' : World}
def Gh.virt (G : Gh) (k : Nat) : Gh := { G with R := fun key => key.1 ≠ k ∧ G.R key, γ := fun key => if key = root k then 0 else G.γ key }
/-- a new array without a block -/
theorem virt_obj (hr : HRep B Z0 G h w) {k g sz : Nat} {old : Ob} (hh : h[k]? = some (g, old)) (h0 : 0 < sz) : HRep B Z0 (G.virt k) (h.set k (g + 1, .arr sz 0 false [])) w ∧ Ext G h w (G.virt k) (h.set k (g + 1, .arr sz 0 false [])) w := by
  have hk : k < h.length := (List.getElem?_eq_some_iff.1 hh).1
  have hsame : ∀ k' y, k' ≠ k → SameKey G (G.virt k) (k', y) := fun k' y hkk => ⟨rfl, ⟨fun x => x.2, fun x => ⟨hkk, x⟩⟩, by simp [Gh.virt, hkk], rfl⟩
  have x : Ext G h w (G.virt k) (h.set k (g + 1, .arr sz 0 false [])) w := by
    refine ⟨fun _ y => y, fun _ _ => rfl, fun k' gn o e => ?_⟩
    by_cases hkk : k' = k
    · subst hkk; rw [hh] at e; cases e
      exact ⟨g + 1, _, List.getElem?_set_self hk, by omega, fun e => by omega⟩
    · exact ⟨gn, o, by rw [List.getElem?_set_ne (Ne.symm hkk)]; exact e, Nat.le_refl _, fun _ => Keep.refl k' o (hsame _ _ hkk) fun i j => hsame _ _ hkk⟩
  refine ⟨hr.update k (g + 1) _ hk x (fun k' y hkk => .inl (hsame k' y hkk)) (fun _ _ _ _ => rfl) (Nat.le_refl _) hr.zb (fun b hb => .inl hb) (fun _ _ _ _ hn => hn) (fun y hR => absurd rfl hR.1) (fun _ _ _ e => by cases e) ?_, x⟩
  unfold ORep
  exact ⟨h0, Nat.zero_le _, by simp [Gh.virt], fun hR => absurd rfl hR.1, fun _ => rfl⟩
/-- new elements in an array -/
theorem dest_append (hr : HRep B Z0 G h w) {k g sz ver ver' γ0 b l : Nat} {es news : List PV} {us us' : Array Value} {T T0 : TypeId} {V : Nat → Value} {mk : Nat → Nat → Option Nat} {vx : Value} (hh : h[k]? = some (g, .arr sz ver false es)) (hs : Src G h w vx sz news V mk)
    (hmk : ∀ i t k2, mk i t = some k2 → i < news.length ∧ k2 ≠ k ∧ (∃ g2, h[k2]? = some (g2, .dead)) ∧ (G.R (root k2) → ¬ G.Z (G.β (root k2)))) (hinj : ∀ i t i' t' k2, mk i t = some k2 → mk i' t' = some k2 → i = i' ∧ t = t')
    (hl : l ≤ es.length) (hv : (l = es.length ∧ ver' = ver) ∨ ver' = ver + 1)
    (hwhere : (G.R (root k) ∧ b = G.β (root k) ∧ γ0 = G.γ (root k)) ∨ (b = w.heap.size ∧ es.length < l + news.length))
    (hnew : w'.heap[b]? = some (.cells us' T (0, 0))) (hold : ∀ x, x < w.heap.size → x ≠ b → w'.heap[x]? = w.heap[x]?) (hsz : w.heap.size ≤ w'.heap.size)
    (c1 : us'.size = γ0 * sz) (c2 : (es.take l ++ news ++ es.drop (l + news.length)).length ≤ γ0) (c3 : γ0 ≤ maxLen)
    (hb : es ≠ [] → w.heap[G.β (root k)]? = some (.cells us T0 (0, 0)))
    (hu1 : ∀ q, q < news.length * sz → us'[l * sz + q]? = some (V q)) (hu2 : ∀ i j, j < sz → i < es.length → ¬ (l ≤ i ∧ i < l + news.length) → us'[i * sz + j]? = us[i * sz + j]?) :
    ∃ G', HRep B Z0 G' (h.set k (g, .arr sz ver' false (es.take l ++ news ++ es.drop (l + news.length)))) w' ∧ Ext G h w G' (h.set k (g, .arr sz ver' false (es.take l ++ news ++ es.drop (l + news.length)))) w' ∧ G'.R (root k) ∧ G'.β (root k) = b ∧ G'.γ (root k) = γ0 := by
  have hget : ∀ (i : Nat) e, (es.take l ++ news ++ es.drop (l + news.length))[i]? = some e → (l ≤ i ∧ i < l + news.length ∧ news[i - l]? = some e) ∨ (¬ (l ≤ i ∧ i < l + news.length) ∧ es[i]? = some e) := by
    intro i e he
    have h1 : (es.take l).length = l := by simp; omega
    by_cases c1 : i < l
    · right
      rw [List.append_assoc, List.getElem?_append_left (by omega), List.getElem?_take, if_pos c1] at he
      exact ⟨by omega, he⟩
    · rw [List.append_assoc, List.getElem?_append_right (by omega), h1] at he
      by_cases c2 : i < l + news.length
      · left
        rw [List.getElem?_append_left (by omega)] at he
        exact ⟨by omega, c2, he⟩
      · right
        rw [List.getElem?_append_right (by omega), List.getElem?_drop, show l + news.length + (i - l - news.length) = i by omega] at he
        exact ⟨by omega, he⟩
  have hget' : ∀ (i : Nat) e, es[i]? = some e → ¬ (l ≤ i ∧ i < l + news.length) → (es.take l ++ news ++ es.drop (l + news.length))[i]? = some e := by
    intro i e he hni
    have h1 : (es.take l).length = l := by simp; omega
    by_cases c1 : i < l
    · rw [List.append_assoc, List.getElem?_append_left (by omega), List.getElem?_take, if_pos c1]; exact he
    · rw [List.append_assoc, List.getElem?_append_right (by omega), h1, List.getElem?_append_right (by omega), List.getElem?_drop, show l + news.length + (i - l - news.length) = i by omega]; exact he
  have hlen : (es.take l ++ news ++ es.drop (l + news.length)).length = max es.length (l + news.length) := by simp; omega
  obtain ⟨x1, x2⟩ := dest_update (ver' := ver') (es' := es.take l ++ news ++ es.drop (l + news.length)) (mk := fun i j => if l ≤ i ∧ i < l + news.length then mk (i - l) j else none) hr hh
    (hwhere.imp id fun ⟨p1, p2⟩ => ⟨p1, by rw [hlen]; omega⟩) hnew hold hsz
    (fun i j k2 hm => by
      try dsimp only at hm
      split at hm
      · exact (hmk _ _ _ hm).2
      · cases hm)
    (fun i j i' j' k2 hm hm' => by
      try dsimp only at hm hm'
      split at hm
      · split at hm'
        · obtain ⟨p1, p2⟩ := hinj _ _ _ _ _ hm hm'
          exact ⟨by omega, p2⟩
        · cases hm'
      · cases hm)
    c1 c2 c3 (by rw [hlen]; omega) (by omega) (fun hver i j ns hc => by
      have hle : l = es.length := by rcases hv with ⟨p, _⟩ | p <;> omega
      have hi : i < es.length := by
        cases he : es[i]? with
        | none => simp [cellAt, he] at hc
        | some e => exact (List.getElem?_eq_some_iff.1 he).1
      obtain ⟨e, he⟩ : ∃ e, es[i]? = some e := ⟨es[i], List.getElem?_eq_getElem hi⟩
      have hn : ¬ (l ≤ i ∧ i < l + news.length) := by omega
      refine ⟨ns, ?_, rfl, by rw [if_neg hn]⟩
      simp only [cellAt, hget' i e he hn, Option.bind_some]
      simpa [cellAt, he] using hc)
    (fun i e he => by
      rcases hget i e he with ⟨p1, p2, p3⟩ | ⟨p1, p2⟩
      · obtain ⟨q1, q2⟩ := hs.cells _ e p3
        refine ⟨q1, fun j c hc => ?_⟩
        have hjs : j < sz := by rw [← q1]; exact (List.getElem?_eq_some_iff.1 hc).1
        have hmm : (if l ≤ i ∧ i < l + news.length then mk (i - l) j else none) = mk (i - l) j := if_pos ⟨p1, p2⟩
        refine ⟨V ((i - l) * sz + j), ?_, ?_⟩
        · have h9 : (i - l + 1) * sz ≤ news.length * sz := Nat.mul_le_mul_right _ (by omega)
          rw [Nat.add_mul] at h9
          have := hu1 ((i - l) * sz + j) (by omega)
          rw [← this]
          congr 1
          have : i * sz = l * sz + (i - l) * sz := by rw [← Nat.add_mul]; congr 1; omega
          omega
        · try dsimp only
          rw [hmm]
          exact ecell_match (q2 j c hc)
      · have hi := (List.getElem?_eq_some_iff.1 p2).1
        obtain ⟨_, us2, T2, q1, q2, q3, q4⟩ := ob_at hr hh p2
        rw [hb fun e => by rw [e] at hi; simp at hi] at q1; cases q1
        refine ⟨q3, fun j c hc => ?_⟩
        have hjs : j < sz := by rw [← q3]; exact (List.getElem?_eq_some_iff.1 hc).1
        obtain ⟨u, q5, q6⟩ := q4 j c hc
        have hmm : (if l ≤ i ∧ i < l + news.length then mk (i - l) j else none) = none := if_neg p1
        refine ⟨u, by rw [hu2 i j hjs hi p1]; exact q5, ?_⟩
        try dsimp only
        rw [hmm]
        exact q6)
  exact ⟨_, x1, x2, by simp [Gh.mv], by simp [Gh.mv], by simp [Gh.mv]⟩
theorem src_one {vx : Value} {sz : Nat} {news : List PV} {V : Nat → Value} {mk : Nat → Nat → Option Nat} (h0 : 0 < sz) (hs : Src G h w vx sz news V mk) {q : Nat} (hq : q < news.length * sz) : (V q).oneCell' = true := by
  have hn := div_lt hq
  obtain ⟨d, hd⟩ : ∃ d, news[q / sz]? = some d := ⟨news[q / sz], List.getElem?_eq_getElem hn⟩
  obtain ⟨h1, h2⟩ := hs.cells _ d hd
  have hm : q % sz < (ecells d).length := by rw [h1]; exact Nat.mod_lt _ h0
  have h3 := h2 (q % sz) _ (List.getElem?_eq_getElem hm)
  rw [show q / sz * sz + q % sz = q by rw [Nat.mul_comm]; exact Nat.div_add_mod q sz] at h3
  cases hmk : mk (q / sz) (q % sz) with
  | none => rw [hmk] at h3; exact oneCell_of h3.1 h3.2
  | some k =>
    rw [hmk] at h3
    obtain ⟨ns, _, h4⟩ := h3
    unfold NRep at h4
    by_cases hR : G.R (root k)
    · obtain ⟨_, _, _, _, h5, _⟩ := h4.1 hR; rw [h5]; rfl
    · rw [(h4.2 hR).1]; rfl
theorem Src.ext {vx : Value} {sz : Nat} {news : List PV} {V : Nat → Value} {mk : Nat → Nat → Option Nat} (x : Ext G h w G' h' w) (hk : ∀ i t k, mk i t = some k → SameKey G G' (root k)) (hs : Src G h w vx sz news V mk) : Src G' h' w vx sz news V mk :=
  ⟨hs.shape, fun i d hd => ⟨(hs.cells i d hd).1, fun t c hc => ((hs.cells i d hd).2 t c hc).ext x (fun k hm => hk i t k hm) fun _ _ _ => rfl⟩⟩
/-- the cells that are appended -/
def newC (V : Nat → Value) (n : Nat) : List Value := (List.range n).map V
theorem newC_len (V : Nat → Value) (n : Nat) : (newC V n).length = n := by simp [newC]
theorem newC_get {V : Nat → Value} {n q : Nat} (hq : q < n) : (newC V n)[q]? = some (V q) := by simp [newC, hq]
theorem run_app_none (t ty e : TypeId) (i : TypeInfo) (ht : P.underlying t = some (.slice e)) (hi : P.info? e = some i) (a : Option Addr) (l c : Nat) (hlc : l ≤ c) (ax : Option Addr) (cx : Nat) :
    (Builtin.append_ #[t, t] ty #[.slice a l c, .slice ax 0 cx]).run P w = .ok (.slice a l c) w := by
  cases a <;> cases ax <;> simp [Builtin.append_, run_underlying ht, sizeOf, typeInfo, hi, Builtin.lenOf, hlc, Builtin.firstCells, loadCells, loadCellsFrom, storeCells]
theorem run_app_room (t ty e : TypeId) (i : TypeInfo) (ht : P.underlying t = some (.slice e)) (hi : P.info? e = some i) (T : TypeId)
    (g sLen sCap : Nat) (cur : Array Value) (hg : w.heap[g]? = some (.cells cur T (0, 0)))
    (a : Addr) (m c : Nat) (news : List Value) (hl : news.length = m * i.size) (hnews : ∀ j u, news[j]? = some u → w.cell? (a.add j) = some u) (h1 : ∀ u ∈ news, u.oneCell' = true)
    (hroom : sLen + m ≤ sCap) (hfit : sLen * i.size + news.length ≤ cur.size) :
    (Builtin.append_ #[t, t] ty #[.slice (some ⟨g, 0, none⟩) sLen sCap, .slice (some a) m c]).run P w =
      .ok (.slice (some ⟨g, 0, none⟩) (sLen + m) sCap) (w.setRow g (putIn cur (sLen * i.size) news)) := by
  have hf := run_firstCells_some (P := P) w i.size m a m c news hl hnews
  have hst := run_storeCells_at P g (sLen * i.size) T news 0 cur w hg (by simpa using hfit) h1
  simp only [Nat.add_zero] at hst
  simp [Builtin.append_, run_underlying ht, sizeOf, typeInfo, hi, Builtin.lenOf, hroom, hf, Addr.add_lit, hst, putIn]
/-- APPEND -/
theorem snd_append (hr : HRep B Z0 G h w) {hide : List Nat} {t ty e : TypeId} {k mode sz by_ : Nat} {s x : Value} {ps px z v : PV} {news : List PV} {ws ws' : List (Nat × Row)} (hk : k < h.length ∧ hide.contains k = false) (ht : P.underlying t = some (.slice e)) (hs : sizeA P e = some sz) (hb : bytesA P e = some by_) (hz : zeroA P e = some z)
    (hzl : (ecells z).length = sz) (h0 : sz ≠ 0) (hb0 : by_ ≠ 0) (hvs : VRep G h w D s ps) (hvx : VRep G h w D x px) (hsrc : srcP (lkOf h hide) mode px = some (news, ws)) (hszok : szOk sz news = true)
    (hdis : appDst k ps ∉ ws.map (·.1)) (happ : appP (lkOf h hide) k sz by_ ps news = some (v, ws')) :
    Good P B Z0 G h w (do pure (.value (← Builtin.append_ #[t, t] ty #[s, x]))) v (ws ++ ws') := by
  obtain ⟨i, zv, hi, hiz, hzv⟩ := zeroA_some hz
  obtain ⟨i', hi', rfl⟩ := sizeA_some hs
  rw [hi] at hi'; cases hi'
  have hby : i.bytes = by_ := by unfold bytesA at hb; rw [hi] at hb; simpa using hb
  have hzc : zv.cells.size = i.size := by rw [(lrep_one (G := G) (h := h) (w := w) hzv).1, hzl]
  have hpos : 0 < i.size := by omega
  obtain ⟨G1, V, mk, e1, e2, e3, e4, e5, e6, e7⟩ := snd_src hr hvx hszok hsrc
  obtain ⟨⟨ax, cx, rfl, hax⟩, _⟩ := id e3
  cases ps <;> (try (simp [appP] at happ; done))
  case nils =>
    simp only [appP] at happ
    split at happ
    · rename_i hbytes
      simp only [Option.some.injEq, Prod.mk.injEq] at happ
      obtain ⟨rfl, rfl⟩ := happ
      obtain rfl := rep_nils hvs
      obtain ⟨⟨g, old⟩, hh⟩ : ∃ r, h[k]? = some r := ⟨_, List.getElem?_eq_getElem hk.1⟩
      rw [lk_gen hk.2 hh]
      have hh1 := (e4 k hdis).trans hh
      obtain ⟨v1, v2⟩ := virt_obj (sz := i.size) e1 hh1 hpos
      have hlen1 : k < (upd h ws).length := by rw [upd_length]; exact hk.1
      have hupd : ∀ r, upd h (ws ++ [(k, r)]) = (upd h ws).set k r := fun r => by rw [upd_append]; rfl
      by_cases hn : news.length = 0
      · have : news = [] := List.length_eq_zero_iff.1 hn
        subst this
        refine ⟨_, .slice none 0 0, w, G1.virt k, by simp [run_app_none (P := P) (w := w) t ty e i ht hi none 0 0 (Nat.le_refl _) ax cx], .inl rfl, by rw [hupd]; exact v1, by rw [hupd]; exact e2.trans v2, ?_, Bl.refl _ _⟩
        rw [hupd]
        unfold D; unfold VRep
        refine ⟨none, 0, rfl, Nat.le_refl _, Nat.zero_le _, .inl ⟨rfl, rfl⟩, g + 1, _, List.getElem?_set_self hlen1, Nat.le_refl _, fun _ sz' vr fr es e => ?_⟩
        cases e
        exact ⟨Nat.le_refl _, fun _ => ⟨Nat.zero_le _, fun hR => absurd rfl hR.1, fun _ => ⟨rfl, rfl⟩⟩⟩
      · obtain ⟨b, f, rfl, hV⟩ := hax.resolve_left hn
        have hVl := newC_len V (news.length * i.size)
        have hnl : news.length ≤ 140737488355328 := by have := Nat.le_mul_of_pos_right news.length (Nat.pos_of_ne_zero hb0); omega
        have hrun := run_append_nil (P := P) w t ty e i zv ht hi hiz ⟨b, f, none⟩ news.length cx (newC V (news.length * i.size)) hVl (fun j u hj => by
          have hj' : j < news.length * i.size := by rw [← hVl]; exact (List.getElem?_eq_some_iff.1 hj).1
          rw [newC_get hj'] at hj; cases hj
          rw [Addr.add_lit]; exact hV j hj') (by omega) (by omega) (by rw [hby]; omega)
        have hcap := grownCap_ge w news.length 0 e
        have hcm := grownCap_le_maxLen w news.length 0 e (by unfold maxLen; omega)
        have hc0 : (upd h ws).set k (g + 1, Ob.arr i.size 0 false []) = (upd h ws).set k (g + 1, Ob.arr i.size 0 false []) := rfl
        obtain ⟨G2, d1, d2, d3, d4, d5⟩ := dest_append (ver' := 0) (γ0 := grownCap w news.length 0 e) (l := 0) (us := #[]) (T0 := 0) (w' := w.drew.alloc (.cells ((newC V (news.length * i.size)).toArray ++ Builtin.zeroCells zv.cells (grownCap w news.length 0 e - news.length)) e)) v1 (List.getElem?_set_self hlen1)
          (e3.ext v2 fun a t k2 hm => by
            have hne : k2 ≠ k := fun e => hdis (e ▸ (e5 a t k2 hm).2.1)
            exact ⟨rfl, ⟨fun y => y.2, fun y => ⟨hne, y⟩⟩, by simp [Gh.virt, hne], rfl⟩)
          (fun a t k2 hm => by
            obtain ⟨p1, p2, ⟨g2, p3⟩, p4⟩ := e5 a t k2 hm
            have hne : k2 ≠ k := fun e => hdis (e ▸ p2)
            exact ⟨p1, hne, ⟨g2, by rw [List.getElem?_set_ne (Ne.symm hne)]; exact p3⟩, fun hR => p4 hR.2⟩)
          e6 (Nat.le_refl 0) (.inl ⟨rfl, rfl⟩) (.inr ⟨rfl, by simp; omega⟩) (heap_alloc_new w.drew _) (fun y hy _ => Below.heap_alloc w.drew _ y hy) (by simp)
          (by
            rw [Array.size_append, size_zeroCells, hzc, List.size_toArray, hVl, ← Nat.add_mul]; congr 1; omega)
          (by simpa using hcap) hcm (fun e => absurd rfl e)
          (fun q hq => by
            rw [Nat.zero_mul, Nat.zero_add, Array.getElem?_append_left (by simpa [hVl] using hq)]
            rw [List.getElem?_toArray]; exact newC_get hq)
          (fun a j _ ha => by simp at ha)
        have hE : ([] : List PV).take 0 ++ news ++ ([] : List PV).drop (0 + news.length) = news := by simp
        rw [hE, List.set_set] at d1 d2
        refine ⟨_, _, _, G2, by simp only [Sem.run_bind, hrun, Result.andThen_ok, Sem.run_pure]; rfl, .inl rfl, by rw [hupd]; exact d1, by rw [hupd]; exact e2.trans (v2.trans d2), ?_, (Bl.drew (Bl.refl _ _)).alloc (by simpa using hr.base) _⟩
        rw [hupd]
        unfold D; unfold VRep
        refine ⟨_, _, rfl, hcap, hcm, .inr ⟨_, _, rfl⟩, g + 1, _, List.getElem?_set_self hlen1, Nat.le_refl _, fun _ sz' vr fr es e9 => ?_⟩
        cases e9
        exact ⟨Nat.le_refl _, fun _ => ⟨by omega, fun _ => ⟨0, by rw [d4], .inr (by simp), by omega, by rw [d5]; omega⟩, fun hn' => absurd d3 hn'⟩⟩
    · cases happ
  case own k1 g gl s0 o l =>
    simp only [appP] at happ
    split at happ
    · rename_i g' sz1 ver fr es hlk
      split at happ
      · rename_i hc
        obtain ⟨rfl, hgl, rfl, rfl, rfl, rfl, hlg, hbytes⟩ := hc
        have hh := lk_some hlk (by simp)
        have hh1 := (e4 k1 hdis).trans hh
        have hk1 : k1 < (upd h ws).length := (List.getElem?_eq_some_iff.1 hh1).1
        have hupd : ∀ r, upd h (ws ++ [(k1, r)]) = (upd h ws).set k1 r := fun r => by rw [upd_append]; rfl
        -- the two forms are one
        have hall : ∃ ver', ((l = es.length ∧ ver' = ver) ∨ (l ≠ es.length ∧ ver' = ver + 1)) ∧ v = .own k1 g' (es.take l ++ news ++ es.drop (l + news.length)).length i.size 0 (l + news.length) ∧ ws' = [(k1, (g', .arr i.size ver' false (es.take l ++ news ++ es.drop (l + news.length))))] := by
          split at happ
          · rename_i hlgl
            simp only [Option.some.injEq, Prod.mk.injEq] at happ
            obtain ⟨rfl, rfl⟩ := happ
            have h1 : es.take l = es := List.take_of_length_le (by omega)
            have h2 : es.drop (l + news.length) = [] := List.drop_eq_nil_of_le (by omega)
            refine ⟨ver, .inl ⟨by omega, rfl⟩, ?_, ?_⟩
            · rw [h1, h2, List.append_nil, List.length_append, hgl, hlgl]
            · rw [h1, h2, List.append_nil]
          · simp only [Option.some.injEq, Prod.mk.injEq] at happ
            obtain ⟨rfl, rfl⟩ := happ
            rename_i hlgl
            exact ⟨ver + 1, .inr ⟨by omega, rfl⟩, rfl, rfl⟩
        obtain ⟨ver', hv0, rfl, rfl⟩ := hall
        have hv' : (l = es.length ∧ ver' = ver) ∨ ver' = ver + 1 := hv0.imp id fun y => y.2
        have hlenE : (es.take l ++ news ++ es.drop (l + news.length)).length = max es.length (l + news.length) := by simp; omega
        have hvs1 := hvs.ext e2
        unfold D at hvs1; unfold VRep at hvs1
        obtain ⟨a, c, rfl, q1, q2, q3, gn, ob, q4, q5, q6⟩ := hvs1
        rw [hh1] at q4; cases q4
        obtain ⟨_, q7⟩ := q6 rfl _ _ _ _ rfl
        obtain ⟨_, q8, q9⟩ := q7 hgl
        have hob := e1.ob k1 _ _ hh1
        unfold ORep at hob
        obtain ⟨o1, o2, o3, o4, o5⟩ := hob
        have hnl : l + news.length ≤ 140737488355328 := by have := Nat.le_mul_of_pos_right (l + news.length) (Nat.pos_of_ne_zero hb0); omega
        have hVl := newC_len V (news.length * i.size)
        have hmk' : ∀ a t k2, mk a t = some k2 → a < news.length ∧ k2 ≠ k1 ∧ (∃ g2, (upd h ws)[k2]? = some (g2, .dead)) ∧ (G1.R (root k2) → ¬ G1.Z (G1.β (root k2))) := fun a t k2 hm => by
          obtain ⟨p1, p2, p3, p4⟩ := e5 a t k2 hm
          exact ⟨p1, fun e => hdis (e ▸ p2), p3, p4⟩
        by_cases hR : G1.R (root k1)
        · obtain ⟨us, T, o6, o7, o8⟩ := o4 hR
          obtain ⟨f, rfl, q10, q11, q12⟩ := q8 hR
          have hfc : f = 0 ∨ c = 0 := by
            rcases q10 with q10 | q10
            · exact .inr q10
            · exact .inl (by simpa using q10 rfl)
          by_cases hroom : l + news.length ≤ c
          · -- there is room
            have hfit : l * i.size + (newC V (news.length * i.size)).length ≤ us.size := by
              rw [hVl, o7, ← Nat.add_mul]; exact Nat.mul_le_mul_right _ (by omega)
            have hD := fun (us' : Array Value) (w' : World) => dest_append (ver' := ver') (γ0 := G1.γ (root k1)) (b := G1.β (root k1)) (l := l) (us := us) (T0 := T) (T := T) (us' := us') (w' := w') e1 hh1 e3 hmk' e6 (by omega) hv' (.inl ⟨hR, rfl, rfl⟩)
            by_cases hn : news.length = 0
            · obtain ⟨G2, d1, d2, d3, d4, d5⟩ := hD us w o6 (fun _ _ _ => rfl) (Nat.le_refl _) o7 (by rw [hlenE]; omega) o3 (fun _ => o6) (fun q hq => by rw [hn] at hq; omega) (fun _ _ _ _ _ => rfl)
              rw [hn] at hax
              refine ⟨_, .slice (some ⟨G1.β (root k1), f, none⟩) l c, w, G2, ?_, .inl rfl, by rw [hupd]; exact d1, by rw [hupd]; exact e2.trans d2, ?_, Bl.refl _ _⟩
              · rw [hn]; simp [run_app_none (P := P) (w := w) t ty e i ht hi (some ⟨G1.β (root k1), f, none⟩) l c (by omega) ax cx]
              · rw [hupd]
                unfold D; unfold VRep
                refine ⟨_, _, by rw [hn]; rfl, by omega, q2, .inr ⟨_, _, rfl⟩, g', _, List.getElem?_set_self hk1, Nat.le_refl _, fun _ sz' vr fr es' e9 => ?_⟩
                cases e9
                refine ⟨Nat.le_refl _, fun _ => ⟨by rw [hlenE]; omega, fun _ => ⟨f, by rw [d4], ?_, by rw [hlenE]; omega, by rw [d5]; omega⟩, fun hn' => absurd d3 hn'⟩⟩
                rcases hfc with hf | hf
                · exact .inr fun _ => by omega
                · exact .inl hf
            · obtain ⟨b, fx, rfl, hV⟩ := hax.resolve_left hn
              have hf : f = 0 := by omega
              subst hf
              have hrun := run_app_room (P := P) (w := w) t ty e i ht hi T (G1.β (root k1)) l c us o6 ⟨b, fx, none⟩ news.length cx (newC V (news.length * i.size)) hVl (fun j u hj => by
                have hj' : j < news.length * i.size := by rw [← hVl]; exact (List.getElem?_eq_some_iff.1 hj).1
                rw [newC_get hj'] at hj; cases hj
                rw [Addr.add_lit]; exact hV j hj') (fun u hu => by
                  obtain ⟨q, hq, rfl⟩ := List.mem_map.1 hu
                  exact src_one hpos e3 (by simpa using hq)) hroom hfit
              obtain ⟨G2, d1, d2, d3, d4, d5⟩ := hD (putIn us (l * i.size) (newC V (news.length * i.size))) (w.setRow (G1.β (root k1)) (putIn us (l * i.size) (newC V (news.length * i.size)))) (setRow_heap w _ us _ T (0, 0) o6) (fun x _ hx => setRow_other w _ _ _ hx) (by simp) (by rw [putIn_size hfit]; exact o7) (by rw [hlenE]; omega) o3 (fun _ => o6)
                (fun q hq => by rw [putIn_get hfit, if_pos (by rw [hVl]; omega), show l * i.size + q - l * i.size = q by omega]; exact newC_get hq)
                (fun a j hj ha hna => by
                  rw [putIn_get hfit, if_neg ?_]
                  rw [hVl]
                  rintro ⟨z1, z2⟩
                  by_cases hal : a < l
                  · have : (a + 1) * i.size ≤ l * i.size := Nat.mul_le_mul_right _ (by omega)
                    rw [Nat.add_mul] at this; omega
                  · have : (l + news.length) * i.size ≤ a * i.size := Nat.mul_le_mul_right _ (by omega)
                    rw [Nat.add_mul] at this; omega)
              refine ⟨_, _, _, G2, by simp only [Sem.run_bind, hrun, Result.andThen_ok, Sem.run_pure]; rfl, .inl rfl, by rw [hupd]; exact d1, by rw [hupd]; exact e2.trans d2, ?_, below_row (Bl.refl _ _) (e1.lv _ hR).1 _ (by assumption)⟩
              rw [hupd]
              unfold D; unfold VRep
              refine ⟨_, _, rfl, by omega, q2, .inr ⟨_, _, rfl⟩, g', _, List.getElem?_set_self hk1, Nat.le_refl _, fun _ sz' vr fr es' e9 => ?_⟩
              cases e9
              exact ⟨Nat.le_refl _, fun _ => ⟨by rw [hlenE]; omega, fun _ => ⟨0, by rw [d4], .inr (by simp), by rw [hlenE]; omega, by rw [d5]; omega⟩, fun hn' => absurd d3 hn'⟩⟩
          · -- a new block
            have hn : news.length ≠ 0 := by omega
            obtain ⟨b, fx, rfl, hV⟩ := hax.resolve_left hn
            have hOl : l * i.size ≤ us.size := by rw [o7]; exact Nat.mul_le_mul_right _ (by omega)
            have hf0 : l * i.size = 0 ∨ f = 0 := by
              rcases hfc with hf | hf
              · exact .inr hf
              · left; have : l = 0 := by omega
                rw [this, Nat.zero_mul]
            have hrun := run_append_grow (P := P) w t ty e i zv ht hi hiz ⟨G1.β (root k1), f, none⟩ l c (us.toList.take (l * i.size)) (by simp; omega) (fun j u hj => by
                have hjl : j < l * i.size := by have := (List.getElem?_eq_some_iff.1 hj).1; simp at this; omega
                rw [List.getElem?_take, if_pos hjl] at hj
                rw [Addr.add_lit, show f + j = j by omega, block_cell o6]; simpa using hj)
              ⟨b, fx, none⟩ news.length cx (newC V (news.length * i.size)) hVl (fun j u hj => by
                have hj' : j < news.length * i.size := by rw [← hVl]; exact (List.getElem?_eq_some_iff.1 hj).1
                rw [newC_get hj'] at hj; cases hj
                rw [Addr.add_lit]; exact hV j hj') (by omega) (by omega) (growslice_fits (by omega) (by rw [hby]; exact hbytes))
            have hcap := grownCap_ge w (l + news.length) c e
            have hcm := grownCap_le_maxLen w (l + news.length) c e (by unfold maxLen; omega)
            have hOlen : (us.toList.take (l * i.size)).toArray.size = l * i.size := by simp; omega
            obtain ⟨G2, d1, d2, d3, d4, d5⟩ := dest_append (ver' := ver') (γ0 := grownCap w (l + news.length) c e) (l := l) (us := us) (T0 := T)
              (w' := w.drew.alloc (.cells ((us.toList.take (l * i.size)).toArray ++ (newC V (news.length * i.size)).toArray ++ Builtin.zeroCells zv.cells (grownCap w (l + news.length) c e - (l + news.length))) e)) e1 hh1 e3 hmk' e6 (by omega) hv' (.inr ⟨rfl, by omega⟩)
              (heap_alloc_new w.drew _) (fun y hy _ => Below.heap_alloc w.drew _ y hy) (by simp)
              (by rw [Array.size_append, Array.size_append, size_zeroCells, hzc, hOlen, List.size_toArray, hVl, ← Nat.add_mul, ← Nat.add_mul]; congr 1; omega)
              (by rw [hlenE]; omega) hcm (fun _ => o6)
              (fun q hq => by
                rw [Array.append_assoc, Array.getElem?_append_right (by rw [hOlen]; omega), hOlen, Array.getElem?_append_left (by simp [hVl]; omega), show l * i.size + q - l * i.size = q by omega]
                rw [List.getElem?_toArray]; exact newC_get hq)
              (fun a j hj ha hna => by
                have hal : a < l := by omega
                have h9 : (a + 1) * i.size ≤ l * i.size := Nat.mul_le_mul_right _ (by omega)
                rw [Nat.add_mul] at h9
                rw [Array.append_assoc, Array.getElem?_append_left (by rw [hOlen]; omega), List.getElem?_toArray, List.getElem?_take, if_pos (by omega)]; simp)
            refine ⟨_, _, _, G2, by simp only [Sem.run_bind, hrun, Result.andThen_ok, Sem.run_pure]; rfl, .inl rfl, by rw [hupd]; exact d1, by rw [hupd]; exact e2.trans d2, ?_, (Bl.drew (Bl.refl _ _)).alloc (by simpa using hr.base) _⟩
            rw [hupd]
            unfold D; unfold VRep
            refine ⟨_, _, rfl, hcap, hcm, .inr ⟨_, _, rfl⟩, g', _, List.getElem?_set_self hk1, Nat.le_refl _, fun _ sz' vr fr es' e9 => ?_⟩
            cases e9
            exact ⟨Nat.le_refl _, fun _ => ⟨by rw [hlenE]; omega, fun _ => ⟨0, by rw [d4], .inr (by simp), by rw [hlenE]; omega, by rw [d5]; omega⟩, fun hn' => absurd d3 hn'⟩⟩
        · have hes := o5 hR
          subst hes
          obtain ⟨rfl, _⟩ := q9 hR
          have hc0 : c = 0 := by
            rcases q3 with ⟨_, q⟩ | ⟨_, _, q⟩
            · exact q
            · cases q
          subst hc0
          have hl0 : l = 0 := by omega
          subst hl0
          obtain rfl : ver' = ver := by
            rcases hv0 with h9 | h9
            · exact h9.2
            · exact absurd rfl h9.1
          by_cases hn : news.length = 0
          · have : news = [] := List.length_eq_zero_iff.1 hn
            subst this
            have hsame : (upd h ws).set k1 (g', Ob.arr i.size ver' false []) = upd h ws := by
              apply List.ext_getElem?
              intro j
              by_cases hj : j = k1
              · subst hj; rw [List.getElem?_set_self hk1, hh1]
              · rw [List.getElem?_set_ne (Ne.symm hj)]
            refine ⟨_, .slice none 0 0, w, G1, by simp [run_app_none (P := P) (w := w) t ty e i ht hi none 0 0 (Nat.le_refl _) ax cx], .inl rfl, ?_, ?_, ?_, Bl.refl _ _⟩
            · rw [hupd]; simp only [List.take_nil, List.append_nil, List.drop_nil]; rw [hsame]; exact e1
            · rw [hupd]; simp only [List.take_nil, List.append_nil, List.drop_nil]; rw [hsame]; exact e2
            · rw [hupd]; simp only [List.take_nil, List.append_nil, List.drop_nil]; rw [hsame]
              unfold D; unfold VRep
              refine ⟨none, 0, rfl, Nat.le_refl _, Nat.zero_le _, .inl ⟨rfl, rfl⟩, g', _, hh1, Nat.le_refl _, fun _ sz' vr fr es e9 => ?_⟩
              cases e9
              exact ⟨Nat.le_refl _, fun _ => ⟨Nat.zero_le _, fun hR' => absurd hR' hR, fun _ => ⟨rfl, rfl⟩⟩⟩
          · obtain ⟨b, fx, rfl, hV⟩ := hax.resolve_left hn
            have hrun := run_append_nil (P := P) w t ty e i zv ht hi hiz ⟨b, fx, none⟩ news.length cx (newC V (news.length * i.size)) hVl (fun j u hj => by
              have hj' : j < news.length * i.size := by rw [← hVl]; exact (List.getElem?_eq_some_iff.1 hj).1
              rw [newC_get hj'] at hj; cases hj
              rw [Addr.add_lit]; exact hV j hj') (by omega) (by omega) (by rw [hby]; rw [Nat.zero_add] at hbytes; omega)
            have hcap := grownCap_ge w news.length 0 e
            have hcm := grownCap_le_maxLen w news.length 0 e (by unfold maxLen; omega)
            obtain ⟨G2, d1, d2, d3, d4, d5⟩ := dest_append (ver' := ver') (γ0 := grownCap w news.length 0 e) (l := 0) (us := #[]) (T0 := 0) (w' := w.drew.alloc (.cells ((newC V (news.length * i.size)).toArray ++ Builtin.zeroCells zv.cells (grownCap w news.length 0 e - news.length)) e)) e1 hh1 e3 hmk' e6 (Nat.le_refl 0) (.inl ⟨rfl, rfl⟩) (.inr ⟨rfl, by simp; omega⟩)
              (heap_alloc_new w.drew _) (fun y hy _ => Below.heap_alloc w.drew _ y hy) (by simp)
              (by rw [Array.size_append, size_zeroCells, hzc, List.size_toArray, hVl, ← Nat.add_mul]; congr 1; omega)
              (by simpa using hcap) hcm (fun e => absurd rfl e)
              (fun q hq => by
                rw [Nat.zero_mul, Nat.zero_add, Array.getElem?_append_left (by simpa [hVl] using hq)]
                rw [List.getElem?_toArray]; exact newC_get hq)
              (fun a j _ ha => by simp at ha)
            refine ⟨_, .slice (some ⟨w.heap.size, 0, none⟩) (0 + news.length) (grownCap w news.length 0 e), _, G2, by simp only [Sem.run_bind, hrun, Result.andThen_ok, Sem.run_pure, Nat.zero_add]; rfl, .inl rfl, by rw [hupd]; exact d1, by rw [hupd]; exact e2.trans d2, ?_, (Bl.drew (Bl.refl _ _)).alloc (by simpa using hr.base) _⟩
            rw [hupd]
            unfold D; unfold VRep
            refine ⟨_, _, rfl, by omega, hcm, .inr ⟨_, _, rfl⟩, g', _, List.getElem?_set_self hk1, Nat.le_refl _, fun _ sz' vr fr es' e9 => ?_⟩
            cases e9
            exact ⟨Nat.le_refl _, fun _ => ⟨by rw [hlenE]; omega, fun _ => ⟨0, by rw [d4], .inr (by simp), by rw [hlenE]; simp; omega, by rw [d5]; omega⟩, fun hn' => absurd d3 hn'⟩⟩
      · cases happ
    · cases happ
theorem Src.take {vx : Value} {sz l : Nat} {news : List PV} {V : Nat → Value} {mk : Nat → Nat → Option Nat} (hs : Src G h w vx sz news V mk) : ∃ vx', Src G h w vx' sz (news.take l) V (fun i t => if i < (news.take l).length then mk i t else none) := by
  obtain ⟨⟨a, c, rfl, ha⟩, hc⟩ := hs
  refine ⟨.slice a (news.take l).length c, ⟨a, c, rfl, ?_⟩, fun i d hd => ?_⟩
  · rcases ha with ha | ⟨b, f, rfl, hV⟩
    · left; rw [List.length_take]; omega
    · right; exact ⟨b, f, rfl, fun q hq => hV q (Nat.lt_of_lt_of_le hq (Nat.mul_le_mul_right _ (by simp; omega)))⟩
  · have hi := (List.getElem?_eq_some_iff.1 hd).1
    rw [List.getElem?_take] at hd
    split at hd
    · obtain ⟨h1, h2⟩ := hc i d hd
      refine ⟨h1, fun t c hc => ?_⟩
      have := h2 t c hc
      simp only [hi, if_true]
      exact this
    · cases hd
theorem run_copy_none (t u ty e : TypeId) (i : TypeInfo) (ht : P.underlying t = some (.slice e)) (hi : P.info? e = some i) (a : Option Addr) (l c : Nat) (ax : Option Addr) (m cx : Nat) (hm : Nat.min m l = 0) :
    (Builtin.copy_ #[t, u] ty #[.slice a l c, .slice ax m cx]).run P w = .ok (.int .i64 0) w := by
  cases a <;> cases ax <;> simp [Builtin.copy_, run_underlying ht, sizeOf, typeInfo, hi, Builtin.lenOf, hm, Builtin.firstCells, loadCells, loadCellsFrom, storeCells, goInt]
theorem run_copy_some (t u ty e : TypeId) (i : TypeInfo) (ht : P.underlying t = some (.slice e)) (hi : P.info? e = some i) (T : TypeId)
    (g off l c : Nat) (cur : Array Value) (hg : w.heap[g]? = some (.cells cur T (0, 0)))
    (a : Addr) (m cx : Nat) (news : List Value) (hl : news.length = Nat.min m l * i.size) (hnews : ∀ j u, news[j]? = some u → w.cell? (a.add j) = some u) (h1 : ∀ u ∈ news, u.oneCell' = true)
    (hfit : off + news.length ≤ cur.size) :
    (Builtin.copy_ #[t, u] ty #[.slice (some ⟨g, off, none⟩) l c, .slice (some a) m cx]).run P w =
      .ok (goInt (Nat.min m l)) (w.setRow g (putIn cur off news)) := by
  have hf := run_firstCells_some (P := P) w i.size (Nat.min m l) a m cx news hl hnews
  have hst := run_storeCells_at P g off T news 0 cur w hg (by simpa using hfit) h1
  simp only [Nat.add_zero] at hst
  simp [Builtin.copy_, run_underlying ht, sizeOf, typeInfo, hi, Builtin.lenOf, hf, hst, putIn]
/-- COPY -/
theorem snd_copy (hr : HRep B Z0 G h w) {hide : List Nat} {t u ty e : TypeId} {sz : Nat} {d x : Value} {pd px v : PV} {news : List PV} {ws ws' : List (Nat × Row)} (ht : P.underlying t = some (.slice e)) (hs : sizeA P e = some sz)
    (h0 : sz ≠ 0) (hvd : VRep G h w D d pd) (hvx : VRep G h w D x px) (hsrc : srcP (lkOf h hide) 0 px = some (news, ws)) (hcp : copyP (lkOf h hide) sz pd news ws = some (v, ws')) :
    Good P B Z0 G h w (do pure (.value (← Builtin.copy_ #[t, u] ty #[d, x]))) v ws' := by
  obtain ⟨i, hi, rfl⟩ := sizeA_some hs
  have hpos : 0 < i.size := by omega
  unfold copyP at hcp
  split at hcp
  case isFalse => cases hcp
  rename_i hszok
  obtain ⟨G1, V, mk, e1, e2, e3, e4, e5, e6, e7⟩ := snd_src hr hvx hszok hsrc
  obtain ⟨⟨ax, cx, rfl, hax⟩, _⟩ := id e3
  cases pd <;> (try (simp at hcp; done))
  case nils =>
    simp only [Option.some.injEq, Prod.mk.injEq] at hcp
    obtain ⟨rfl, rfl⟩ := hcp
    obtain rfl := rep_nils hvd
    refine ⟨_, .int .i64 0, w, G1, by simp only [Sem.run_bind, run_copy_none t u ty e i ht hi none 0 0 ax news.length cx (by simp [Nat.min_def]), Result.andThen_ok, Sem.run_pure], .inl rfl, e1, e2, mk_int, Bl.refl _ _⟩
  case own k g gl s o l =>
    simp only at hcp
    split at hcp
    · rename_i g' sz1 ver fr es hlk
      split at hcp
      · rename_i hcond
        obtain ⟨rfl, hgl, rfl, rfl, rfl, hol, hdis⟩ := hcond
        have hdis' : k ∉ ws.map (·.1) := by simpa using hdis
        have hh := lk_some hlk (by simp)
        have hh1 := (e4 k hdis').trans hh
        have hk : k < (upd h ws).length := (List.getElem?_eq_some_iff.1 hh1).1
        have hupd : ∀ r, upd h (ws ++ [(k, r)]) = (upd h ws).set k r := fun r => by rw [upd_append]; rfl
        obtain ⟨vx', hsrc'⟩ := e3.take (l := l)
        have hn : (news.take l).length = Nat.min news.length l := by rw [List.length_take]; exact Nat.min_comm _ _
        split at hcp
        · rename_i hn0
          simp only [Option.some.injEq, Prod.mk.injEq] at hcp
          obtain ⟨rfl, rfl⟩ := hcp
          have hvd1 := hvd
          unfold D at hvd1; unfold VRep at hvd1
          obtain ⟨a, c, rfl, _⟩ := hvd1
          refine ⟨_, .int .i64 0, w, G1, by simp only [Sem.run_bind, run_copy_none t u ty e i ht hi a l c ax news.length cx (by rw [← hn]; exact hn0), Result.andThen_ok, Sem.run_pure], .inl rfl, e1, e2, mk_int, Bl.refl _ _⟩
        · rename_i hn0
          simp only [Option.some.injEq, Prod.mk.injEq] at hcp
          obtain ⟨rfl, rfl⟩ := hcp
          have hnle : (news.take l).length ≤ l := by simp; omega
          have hnle2 : (news.take l).length ≤ news.length := by simp; omega
          have hlenE : (es.take o ++ news.take l ++ es.drop (o + (news.take l).length)).length = es.length := by
            simp only [List.length_append, List.length_take (l := es), List.length_drop]; omega
          have hmk' : ∀ a t k2, (if a < (news.take l).length then mk a t else none) = some k2 → a < (news.take l).length ∧ k2 ≠ k ∧ (∃ g2, (upd h ws)[k2]? = some (g2, .dead)) ∧ (G1.R (root k2) → ¬ G1.Z (G1.β (root k2))) := fun a t k2 hm => by
            split at hm
            · rename_i hlt
              obtain ⟨p1, p2, p3, p4⟩ := e5 a t k2 hm
              exact ⟨hlt, fun e => hdis' (e ▸ p2), p3, p4⟩
            · cases hm
          have hinj' : ∀ a t a' t' k2, (if a < (news.take l).length then mk a t else none) = some k2 → (if a' < (news.take l).length then mk a' t' else none) = some k2 → a = a' ∧ t = t' := fun a t a' t' k2 h1 h2 => by
            split at h1
            · split at h2
              · exact e6 _ _ _ _ _ h1 h2
              · cases h2
            · cases h1
          have hvd1 := hvd.ext e2
          unfold D at hvd1; unfold VRep at hvd1
          obtain ⟨a, c, rfl, q1, q2, q3, gn, ob, q4, q5, q6⟩ := hvd1
          rw [hh1] at q4; cases q4
          obtain ⟨_, q7⟩ := q6 rfl _ _ _ _ rfl
          obtain ⟨_, q8, q9⟩ := q7 hgl
          have hob := e1.ob k _ _ hh1
          unfold ORep at hob
          obtain ⟨o1, o2, o3, o4, o5⟩ := hob
          have hR : G1.R (root k) := Classical.byContradiction fun hn' => by
            have := o5 hn'; subst this; simp at hgl; omega
          obtain ⟨us, T, o6, o7, o8⟩ := o4 hR
          obtain ⟨f, rfl, q10, q11, q12⟩ := q8 hR
          have hf : f = o * i.size := by
            rcases q10 with q10 | q10
            · omega
            · exact q10 rfl
          subst hf
          obtain ⟨b, fx, rfl, hV⟩ := hax.resolve_left (by omega)
          have hVl := newC_len V ((news.take l).length * i.size)
          have hfit : o * i.size + (newC V ((news.take l).length * i.size)).length ≤ us.size := by
            rw [hVl, o7, ← Nat.add_mul]; exact Nat.mul_le_mul_right _ (by omega)
          have hrun := run_copy_some (P := P) (w := w) t u ty e i ht hi T (G1.β (root k)) (o * i.size) l c us o6 ⟨b, fx, none⟩ news.length cx (newC V ((news.take l).length * i.size)) (by rw [hVl, hn]) (fun j u hj => by
            have hj' : j < (news.take l).length * i.size := by rw [← hVl]; exact (List.getElem?_eq_some_iff.1 hj).1
            rw [newC_get hj'] at hj; cases hj
            rw [Addr.add_lit]; exact hV j (Nat.lt_of_lt_of_le hj' (Nat.mul_le_mul_right _ hnle2))) (fun u hu => by
              obtain ⟨q, hq, rfl⟩ := List.mem_map.1 hu
              exact src_one hpos e3 (Nat.lt_of_lt_of_le (by simpa using hq) (Nat.mul_le_mul_right _ hnle2))) hfit
          rw [← hn] at hrun
          obtain ⟨G2, d1, d2, d3, d4, d5⟩ := dest_append (ver' := ver + 1) (γ0 := G1.γ (root k)) (b := G1.β (root k)) (l := o) (us := us) (T0 := T) (T := T) (us' := putIn us (o * i.size) (newC V ((news.take l).length * i.size))) (w' := w.setRow (G1.β (root k)) (putIn us (o * i.size) (newC V ((news.take l).length * i.size)))) e1 hh1 hsrc' hmk' hinj' (by omega) (.inr rfl) (.inl ⟨hR, rfl, rfl⟩)
            (setRow_heap w _ us _ T (0, 0) o6) (fun x _ hx => setRow_other w _ _ _ hx) (by simp) (by rw [putIn_size hfit]; exact o7) (by rw [hlenE]; omega) o3 (fun _ => o6)
            (fun q hq => by rw [putIn_get hfit, if_pos (by rw [hVl]; omega), show o * i.size + q - o * i.size = q by omega]; exact newC_get hq)
            (fun a j hj ha hna => by
              rw [putIn_get hfit, if_neg ?_]
              rw [hVl]
              rintro ⟨z1, z2⟩
              by_cases hal : a < o
              · have : (a + 1) * i.size ≤ o * i.size := Nat.mul_le_mul_right _ (by omega)
                rw [Nat.add_mul] at this; omega
              · have : (o + (news.take l).length) * i.size ≤ a * i.size := Nat.mul_le_mul_right _ (by omega)
                rw [Nat.add_mul] at this; omega)
          refine ⟨_, .int .i64 ((news.take l).length : Nat), _, G2, by simp only [Sem.run_bind, hrun, Result.andThen_ok, Sem.run_pure]; rfl, .inl rfl, by rw [hupd]; exact d1, by rw [hupd]; exact e2.trans d2, mk_int, below_row (Bl.refl _ _) (e1.lv _ hR).1 _ (by assumption)⟩
      · cases hcp
    · cases hcp
end
end Go.Proofs.Ytalgbgeocpbadaa.Am
