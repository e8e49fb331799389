/-
  How the plain machine's values lie in memory, and that they stay as they lie.
-/
import Derived.Test.YtalgbgeocpbadaaAmA
namespace Go.Proofs.Ytalgbgeocpbadaa.Am
set_option linter.unusedSimpArgs false
set_option linter.unusedVariables false
set_option linter.unusedSectionVars false
open Go.RowKit

/-- below B the world is as it was; what is no cells lies as it lay -/
structure Bl (B : Nat) (w w' : World) : Prop where
  bl : Below B w w'
  same : ∀ (k : Nat) (o : Obj), w.heap[k]? = some o → o.isCells = false → w'.heap[k]? = some o
section
variable {B : Nat} {a b c w w' : World}
theorem Bl.refl (B : Nat) (w : World) : Bl B w w := ⟨Below.refl _ _, fun _ _ h _ => h⟩
theorem Bl.trans (h : Bl B a b) (k : Bl B b c) : Bl B a c := ⟨h.bl.trans k.bl, fun i o h1 h2 => k.same i o (h.same i o h1 h2) h2⟩
theorem Bl.mono {B' : Nat} (h : Bl B a b) (hB : B' ≤ B) : Bl B' a b := ⟨h.bl.mono hB, h.same⟩
theorem Bl.size (h : Bl B a b) : a.heap.size ≤ b.heap.size := h.bl.size
theorem Bl.block (h : Bl B a b) : ∀ k, k < B → b.heap[k]? = a.heap[k]? := h.bl.block
theorem Bl.drew (h : Bl B a w) : Bl B a w.drew := h.trans ⟨(Below.refl B w).drew, fun _ _ h _ => h⟩
theorem Bl.alloc (h : Bl B a w) (hB : B ≤ w.heap.size) (o : Obj) : Bl B a (w.alloc o) :=
  h.trans ⟨(Below.refl B w).alloc hB o, fun k x h1 _ => (Below.heap_alloc _ _ _ (Array.getElem?_eq_some_iff.1 h1).1).trans h1⟩
end
/-- a block of cells -/
def isC (w : World) (b : Nat) : Prop := ∃ us T x, w.heap[b]? = some (.cells us T x)
theorem isC.lt {w : World} {b : Nat} (h : isC w b) : b < w.heap.size := by obtain ⟨_, _, _, h⟩ := h; exact (Array.getElem?_eq_some_iff.1 h).1
theorem isC.eq {w w' : World} {b : Nat} (h : isC w b) (e : w'.heap[b]? = w.heap[b]?) : isC w' b := by obtain ⟨u, T, x, h⟩ := h; exact ⟨u, T, x, e.trans h⟩
abbrev Key := Nat × Option (Nat × Nat)
abbrev root (k : Nat) : Key := (k, none)
abbrev nest (k i j : Nat) : Key := (k, some (i, j))
/-- where the objects lie; which of them have a block; how much room they have; the blocks that nobody writes to -/
structure Gh where
  β : Key → Nat
  R : Key → Prop
  γ : Key → Nat
  σ : Key → Nat
  Z : Nat → Prop

def LRep (R : Value → PV → Prop) (vs : Array Value) (cs : List PV) : Prop := vs.size = cs.length ∧ ∀ (i : Nat) c, cs[i]? = some c → ∃ u, vs[i]? = some u ∧ R u c
theorem LRep.mono {R R' : Value → PV → Prop} {vs : Array Value} {cs : List PV} (h : LRep R vs cs) (hr : ∀ v c, R v c → R' v c) : LRep R' vs cs :=
  ⟨h.1, fun i c hc => let ⟨u, h1, h2⟩ := h.2 i c hc; ⟨u, h1, hr _ _ h2⟩⟩

def litOk : Value → Bool
  | .pointer none | .nilFunc | .nilIface | .map none => true
  | _ => false
def D : Nat := 6

def PRep (Z : Nat → Prop) (w : World) : Nat → Value → PV → Prop
  | _, _, .undef => True
  | _, v, .bool b => v = .bool b
  | _, v, .int k n => v = .int k n
  | _, v, .str s => v = .string s
  | _, v, .lit u => v = u ∧ litOk u = true
  | n + 1, v, .slc es => ∃ a c sz, v = .slice a es.length c ∧ es.length ≤ c ∧ c ≤ maxLen ∧ (a = none → c = 0) ∧
      ∀ (i : Nat) e, es[i]? = some e → (ecells e).length = sz ∧ ∃ b o, a = some ⟨b, o, none⟩ ∧ Z b ∧ ∀ (j : Nat) c, (ecells e)[j]? = some c → one c = true ∧ ∃ u, w.cell? ⟨b, o + (i * sz + j), none⟩ = some u ∧ PRep Z w n u c
  | n + 1, v, .agg cs => ∃ vs, v = .agg vs ∧ LRep (PRep Z w n) vs cs
  | _, _, _ => False

theorem PRep.mono {Z Z' : Nat → Prop} {w w' : World} (hz : ∀ b, Z b → Z' b) (hw : ∀ b, Z b → w'.heap[b]? = w.heap[b]?) : ∀ {n : Nat} {v : Value} {p : PV}, PRep Z w n v p → PRep Z' w' n v p := by
  intro n
  induction n with
  | zero => intro v p h; cases p <;> first | exact h | exact (show False from h).elim
  | succ n ih =>
    intro v p h
    cases p <;> first | exact h | skip
    case slc es =>
      obtain ⟨a, c, sz, h1, h2, h3, h4, h5⟩ := h
      refine ⟨a, c, sz, h1, h2, h3, h4, fun i e he => ?_⟩
      obtain ⟨h6, b, o, h7, h8, h9⟩ := h5 i e he
      refine ⟨h6, b, o, h7, hz b h8, fun j c hc => ?_⟩
      obtain ⟨h0, u, h10, h11⟩ := h9 j c hc
      exact ⟨h0, u, by rw [World.cell?_of_block (w := w) (a := ⟨b, _, none⟩) (hw b h8)]; exact h10, ih h11⟩
    case agg cs =>
      obtain ⟨vs, h1, h2⟩ := h
      exact ⟨vs, h1, h2.mono fun _ _ x => ih x⟩
theorem PRep.up {Z : Nat → Prop} {w : World} : ∀ {n : Nat} {v : Value} {p : PV}, PRep Z w n v p → PRep Z w (n + 1) v p := by
  intro n
  induction n with
  | zero => intro v p h; cases p <;> first | exact h | exact (show False from h).elim
  | succ n ih =>
    intro v p h
    cases p <;> first | exact h | skip
    case slc es =>
      obtain ⟨a, c, sz, h1, h2, h3, h4, h5⟩ := h
      refine ⟨a, c, sz, h1, h2, h3, h4, fun i e he => ?_⟩
      obtain ⟨h6, b, o, h7, h8, h9⟩ := h5 i e he
      refine ⟨h6, b, o, h7, h8, fun j c hc => ?_⟩
      obtain ⟨h0, u, h10, h11⟩ := h9 j c hc
      exact ⟨h0, u, h10, ih h11⟩
    case agg cs =>
      obtain ⟨vs, h1, h2⟩ := h
      exact ⟨vs, h1, h2.mono fun _ _ x => ih x⟩

theorem PRep.le {Z : Nat → Prop} {w : World} {n m : Nat} {v : Value} {p : PV} (h : n ≤ m) (hp : PRep Z w n v p) : PRep Z w m v p := by
  induction h with
  | refl => exact hp
  | step _ ih => exact ih.up
/-- a plain value, read through memory that nobody writes to -/
def PR (Z : Nat → Prop) (w : World) (v : Value) (p : PV) : Prop := ∃ n, PRep Z w n v p
theorem PR.mono {Z Z' : Nat → Prop} {w w' : World} (hz : ∀ b, Z b → Z' b) (hw : ∀ b, Z b → w'.heap[b]? = w.heap[b]?) {v : Value} {p : PV} (h : PR Z w v p) : PR Z' w' v p :=
  let ⟨n, hn⟩ := h; ⟨n, hn.mono hz hw⟩
/-- finitely many bounds have one -/
theorem bound_all {Q : Nat → Nat → Prop} (hup : ∀ i n m, n ≤ m → Q i n → Q i m) : ∀ (k : Nat), (∀ i, i < k → ∃ n, Q i n) → ∃ N, ∀ i, i < k → Q i N
  | 0, _ => ⟨0, fun i hi => by omega⟩
  | k + 1, h => by
    obtain ⟨N, hN⟩ := bound_all hup k fun i hi => h i (by omega)
    obtain ⟨n, hn⟩ := h k (by omega)
    refine ⟨max N n, fun i hi => ?_⟩
    by_cases hik : i < k
    · exact hup i _ _ (Nat.le_max_left _ _) (hN i hik)
    · obtain rfl : i = k := by omega
      exact hup i _ _ (Nat.le_max_right _ _) hn
theorem PR.slc_iff {Z : Nat → Prop} {w : World} {v : Value} {es : List PV} : PR Z w v (.slc es) ↔ ∃ a c sz, v = .slice a es.length c ∧ es.length ≤ c ∧ c ≤ maxLen ∧ (a = none → c = 0) ∧
      ∀ (i : Nat) e, es[i]? = some e → (ecells e).length = sz ∧ ∃ b o, a = some ⟨b, o, none⟩ ∧ Z b ∧ ∀ (j : Nat) c, (ecells e)[j]? = some c → one c = true ∧ ∃ u, w.cell? ⟨b, o + (i * sz + j), none⟩ = some u ∧ PR Z w u c := by
  constructor
  · rintro ⟨n, hp⟩
    cases n with
    | zero => unfold PRep at hp; exact hp.elim
    | succ n =>
      unfold PRep at hp
      obtain ⟨a, c, sz, h1, h2, h3, h4, h5⟩ := hp
      refine ⟨a, c, sz, h1, h2, h3, h4, fun i e he => ?_⟩
      obtain ⟨h6, b, o, h7, h8, h9⟩ := h5 i e he
      refine ⟨h6, b, o, h7, h8, fun j c hc => ?_⟩
      obtain ⟨h10, u, h11, h12⟩ := h9 j c hc
      exact ⟨h10, u, h11, n, h12⟩
  · rintro ⟨a, c, sz, h1, h2, h3, h4, h5⟩
    have hall : ∃ N, ∀ i, i < es.length → ∀ e, es[i]? = some e → ∀ (j : Nat) c, (ecells e)[j]? = some c → ∀ b o, a = some ⟨b, o, none⟩ → ∃ u, w.cell? ⟨b, o + (i * sz + j), none⟩ = some u ∧ PRep Z w N u c := by
      refine bound_all (Q := fun i N => ∀ e, es[i]? = some e → ∀ (j : Nat) c, (ecells e)[j]? = some c → ∀ b o, a = some ⟨b, o, none⟩ → ∃ u, w.cell? ⟨b, o + (i * sz + j), none⟩ = some u ∧ PRep Z w N u c) ?_ _ ?_
      · intro i n m hnm hq e he j c hc b o ha
        obtain ⟨u, g1, g2⟩ := hq e he j c hc b o ha
        exact ⟨u, g1, g2.le hnm⟩
      · intro i hi
        obtain ⟨e, he⟩ : ∃ e, es[i]? = some e := ⟨es[i], List.getElem?_eq_getElem hi⟩
        obtain ⟨h6, b, o, h7, h8, h9⟩ := h5 i e he
        obtain ⟨N, hN⟩ := bound_all (Q := fun j N => ∀ c, (ecells e)[j]? = some c → ∃ u, w.cell? ⟨b, o + (i * sz + j), none⟩ = some u ∧ PRep Z w N u c) (fun j n m hnm hq c hc => by
          obtain ⟨u, g1, g2⟩ := hq c hc
          exact ⟨u, g1, g2.le hnm⟩) (ecells e).length (fun j hj => by
          obtain ⟨g0, u, g1, n, g2⟩ := h9 j _ (List.getElem?_eq_getElem hj)
          exact ⟨n, fun c hc => by rw [List.getElem?_eq_getElem hj] at hc; cases hc; exact ⟨u, g1, g2⟩⟩)
        refine ⟨N, fun e' he' j c hc b' o' ha => ?_⟩
        rw [he] at he'; cases he'
        rw [h7] at ha; cases ha
        exact hN j (List.getElem?_eq_some_iff.1 hc).1 c hc
    obtain ⟨N, hN⟩ := hall
    refine ⟨N + 1, ?_⟩
    unfold PRep
    refine ⟨a, c, sz, h1, h2, h3, h4, fun i e he => ?_⟩
    obtain ⟨h6, b, o, h7, h8, h9⟩ := h5 i e he
    refine ⟨h6, b, o, h7, h8, fun j c hc => ⟨(h9 j c hc).1, hN i (List.getElem?_eq_some_iff.1 he).1 e he j c hc b o h7⟩⟩

def cellAt (es : List PV) (i j : Nat) : Option PV := (es[i]?).bind fun e => (ecells e)[j]?

def VRep (G : Gh) (h : Heap) (w : World) : Nat → Value → PV → Prop
  | _, _, .undef => True
  | _, v, .bool b => v = .bool b
  | _, v, .int k n => v = .int k n
  | _, v, .str s => v = .string s
  | _, v, .lit u => v = u ∧ litOk u = true
  | _, v, .nils => v = .slice none 0 0
  | _, v, .slc es => PR G.Z w v (.slc es)
  | _, v, .own k g gl s o l => ∃ a c, v = .slice a l c ∧ l ≤ c ∧ c ≤ maxLen ∧ ((a = none ∧ c = 0) ∨ ∃ b f, a = some ⟨b, f, none⟩) ∧ ∃ gn ob, h[k]? = some (gn, ob) ∧ g ≤ gn ∧
      (gn = g → ∀ sz ver fr es, ob = .arr sz ver fr es → gl ≤ es.length ∧ (es.length = gl → o + l ≤ gl ∧
        (G.R (root k) → ∃ f, a = some ⟨G.β (root k), f, none⟩ ∧ (c = 0 ∨ (sz = s → f = o * s)) ∧ gl ≤ o + c ∧ o + c ≤ G.γ (root k)) ∧ (¬ G.R (root k) → a = none ∧ o = 0)))
  | _, v, .nown k g ver i j o l => ∃ a c, v = .slice a l c ∧ l ≤ c ∧ c ≤ maxLen ∧ ((a = none ∧ c = 0) ∨ ∃ b f, a = some ⟨b, f, none⟩) ∧ ∃ gn ob, h[k]? = some (gn, ob) ∧ g ≤ gn ∧
      (gn = g → ∀ sz vr fr es, ob = .arr sz vr fr es → ver ≤ vr ∧ (vr = ver → ∃ ns, cellAt es i j = some (.uslc ns) ∧ o + l ≤ ns.length ∧
        (G.R (nest k i j) → ∃ f, a = some ⟨G.β (nest k i j), f, none⟩ ∧ (c = 0 ∨ f = o * G.σ (nest k i j))) ∧ (¬ G.R (nest k i j) → a = none ∧ o = 0)))
  | _, v, .ptr k g o => ∃ b, v = .pointer (some ⟨b, o, none⟩) ∧ ∃ gn ob, h[k]? = some (gn, ob) ∧ g ≤ gn ∧ (gn = g → ∀ cs, ob = .var cs → b = G.β (root k))
  | _, v, .eptr k g gl s i j => ∃ b f, v = .pointer (some ⟨b, f, none⟩) ∧ ∃ gn ob, h[k]? = some (gn, ob) ∧ g ≤ gn ∧
      (gn = g → ∀ sz ver fr es, ob = .arr sz ver fr es → gl ≤ es.length ∧ (es.length = gl → b = G.β (root k) ∧ (sz = s → f = i * s + j) ∧ i < gl))
  | _, v, .nptr k g ver s i j m l => ∃ b f, v = .pointer (some ⟨b, f, none⟩) ∧ ∃ gn ob, h[k]? = some (gn, ob) ∧ g ≤ gn ∧
      (gn = g → ∀ sz vr fr es, ob = .arr sz vr fr es → ver ≤ vr ∧ (vr = ver → ∃ ns, cellAt es i j = some (.uslc ns) ∧ b = G.β (nest k i j) ∧ (G.σ (nest k i j) = s → f = m * s + l) ∧ m < ns.length))
  | _, v, .fptr cs => ∃ b o, v = .pointer (some ⟨b, o, none⟩) ∧ G.Z b ∧ ∀ (j : Nat) c, cs[j]? = some c → one c = true ∧ ∃ u, w.cell? ⟨b, o + j, none⟩ = some u ∧ PR G.Z w u c
  | n + 1, v, .agg cs => ∃ vs, v = .agg vs ∧ LRep (VRep G h w n) vs cs
  | n + 1, v, .tup cs => ∃ vs, v = .tuple vs ∧ LRep (VRep G h w n) vs cs
  | n + 1, v, .fn f first cap => ∃ vs us, v = .func f vs us ∧ LRep (VRep G h w n) vs first ∧ LRep (VRep G h w n) us cap
  | _, _, _ => False

/-- an array that lies in a cell, and nowhere else -/
def NRep (G : Gh) (w : World) (key : Key) (u : Value) (ns : List PV) : Prop :=
  (G.R key → ∃ us T f c, u = .slice (some ⟨G.β key, f, none⟩) ns.length c ∧ (c = 0 ∨ f = 0) ∧ ns.length ≤ c ∧ c ≤ G.γ key ∧ G.γ key ≤ maxLen ∧ w.heap[G.β key]? = some (.cells us T (0, 0)) ∧ us.size = G.γ key * G.σ key ∧ 0 < G.σ key ∧
    ∀ (i : Nat) e, ns[i]? = some e → (ecells e).length = G.σ key ∧ ∀ (j : Nat) c, (ecells e)[j]? = some c → one c = true ∧ ∃ v, us[i * G.σ key + j]? = some v ∧ PR G.Z w v c) ∧
  (¬ G.R key → u = .slice none 0 0 ∧ ns = [])
def CRep (G : Gh) (h : Heap) (w : World) (k i j : Nat) (u : Value) : PV → Prop
  | .uslc ns => NRep G w (nest k i j) u ns
  | c => one c = true ∧ VRep G h w D u c
def ORep (G : Gh) (h : Heap) (w : World) (k : Nat) : Ob → Prop
  | .dead => True
  | .var cs => G.R (root k) ∧ ∃ us T, w.heap[G.β (root k)]? = some (.cells us T (0, 0)) ∧ LRep (fun v c => one c = true ∧ VRep G h w D v c) us cs
  | .arr sz _ _ es => 0 < sz ∧ es.length ≤ G.γ (root k) ∧ G.γ (root k) ≤ maxLen ∧
      (G.R (root k) → ∃ us T, w.heap[G.β (root k)]? = some (.cells us T (0, 0)) ∧ us.size = G.γ (root k) * sz ∧
        ∀ (i : Nat) e, es[i]? = some e → (ecells e).length = sz ∧ ∀ (j : Nat) c, (ecells e)[j]? = some c → ∃ u, us[i * sz + j]? = some u ∧ CRep G h w k i j u c) ∧
      (¬ G.R (root k) → es = [])
/-- may it still be written? -/
def liveOb : Ob → Bool
  | .var _ => true
  | .arr _ _ fr _ => !fr
  | .dead => false
structure HRep (B : Nat) (Z0 : Nat → Prop) (G : Gh) (h : Heap) (w : World) : Prop where
  base : B ≤ w.heap.size
  zo : ∀ b, G.Z b → Z0 b ∨ B ≤ b
  zb : ∀ b, G.Z b → isC w b
  lv : ∀ key, G.R key → B ≤ G.β key ∧ isC w (G.β key)
  nz : ∀ k g o, h[k]? = some (g, o) → liveOb o = true → ∀ y, G.R (k, y) → ¬ G.Z (G.β (k, y))
  fz : ∀ k g sz ver es, h[k]? = some (g, .arr sz ver true es) → ∀ y, G.R (k, y) → G.Z (G.β (k, y))
  inj : ∀ key key', G.R key → G.R key' → G.β key = G.β key' → key = key'
  ob : ∀ k g o, h[k]? = some (g, o) → ORep G h w k o

def SameKey (G G' : Gh) (key : Key) : Prop := G'.β key = G.β key ∧ (G'.R key ↔ G.R key) ∧ G'.γ key = G.γ key ∧ G'.σ key = G.σ key
theorem SameKey.refl (G : Gh) (key : Key) : SameKey G G key := ⟨rfl, Iff.rfl, rfl, rfl⟩
def Keep (G G' : Gh) (k : Nat) (ob ob' : Ob) : Prop :=
  (∀ sz ver' fr' es', ob' = .arr sz ver' fr' es' → ∃ ver fr es, ob = .arr sz ver fr es ∧ es.length ≤ es'.length ∧ ver ≤ ver' ∧ (es'.length = es.length → SameKey G G' (root k)) ∧
    (ver' = ver → ∀ i j ns, cellAt es i j = some (.uslc ns) → ∃ ns', cellAt es' i j = some (.uslc ns') ∧ ns.length = ns'.length ∧ SameKey G G' (nest k i j))) ∧
  (∀ cs', ob' = .var cs' → ∃ cs, ob = .var cs ∧ SameKey G G' (root k))
structure Ext (G : Gh) (h : Heap) (w : World) (G' : Gh) (h' : Heap) (w' : World) : Prop where
  zz : ∀ b, G.Z b → G'.Z b
  zw : ∀ b, G.Z b → w'.heap[b]? = w.heap[b]?
  kp : ∀ k gn ob, h[k]? = some (gn, ob) → ∃ gn' ob', h'[k]? = some (gn', ob') ∧ gn ≤ gn' ∧ (gn' = gn → Keep G G' k ob ob')

/-- from block m on, what is no cells may have been shut -/
structure Shut (m : Nat) (w w' : World) : Prop where
  os : w'.os = w.os
  tape : w'.tape = w.tape
  output : w'.output = w.output
  size : w'.heap.size = w.heap.size
  cells : ∀ b, isC w b → w'.heap[b]? = w.heap[b]?
  low : ∀ b, b < m → w'.heap[b]? = w.heap[b]?
theorem Shut.refl (m : Nat) (w : World) : Shut m w w := ⟨rfl, rfl, rfl, rfl, fun _ _ => rfl, fun _ _ => rfl⟩
theorem Shut.trans {m : Nat} {a b c : World} (h : Shut m a b) (k : Shut m b c) : Shut m a c :=
  ⟨k.os.trans h.os, k.tape.trans h.tape, k.output.trans h.output, k.size.trans h.size, fun b hb => (k.cells b (hb.eq (h.cells b hb))).trans (h.cells b hb), fun b hb => (k.low b hb).trans (h.low b hb)⟩
theorem Shut.put {m D : Nat} {w : World} {o o' : Obj} (h : w.heap[D]? = some o) (ho : o.isCells = false) (hm : m ≤ D) : Shut m w (w.putObj D o') :=
  ⟨rfl, rfl, rfl, by simp, fun b hb => World.putObj_heap_other fun e => (by
    subst e; obtain ⟨us, T, x, hc⟩ := hb; rw [h] at hc; cases hc; cases ho), fun b hb => World.putObj_heap_other (by omega)⟩
/-- what is to be true of memory as long as a body runs; with a ghost -/
structure Anch (B : Nat) where
  m : Nat
  psi : PV → Gh → Heap → World → Prop
  ms : ∀ {g : PV} {G : Gh} {h : Heap} {w : World}, psi g G h w → m ≤ w.heap.size
  step : ∀ {g : PV} {G : Gh} {h : Heap} {w : World} {G' : Gh} {h' : Heap} {w' : World}, psi g G h w → Ext G h w G' h' w' → Bl B w w' → psi g G' h' w'
  shut : ∀ {Z0 : Nat → Prop} {g : PV} {G : Gh} {h : Heap} {w w' : World}, HRep B Z0 G h w → psi g G h w → Shut m w w' → psi g G h w'
theorem Bl.shut {B : Nat} {w0 w w' : World} (hB : B ≤ w0.heap.size) (h : Bl B w0 w) (s : Shut w0.heap.size w w') : Bl B w0 w' :=
  ⟨⟨s.os.trans h.bl.os, s.tape.trans h.bl.tape, s.output.trans h.bl.output, by rw [s.size]; exact h.size, fun k hk => (s.low k (by omega)).trans (h.block k hk)⟩,
    fun k o h1 h2 => (s.low k (Array.getElem?_eq_some_iff.1 h1).1).trans (h.same k o h1 h2)⟩
def Anch.plain (w0 : World) : Anch w0.heap.size := ⟨w0.heap.size, fun _ _ _ w => Bl w0.heap.size w0 w, fun h => h.size, fun h _ b => h.trans b, fun _ h s => h.shut (Nat.le_refl _) s⟩
/-- the calls that are put off are marks of loops over functions alone -/
def DefOk (m : Nat) (ds : List Deferred) (w : World) : Prop := ∃ Ds : List Nat, Ds.Nodup ∧ ds = Ds.map (fun D => { target := .collected D, args := #[] }) ∧ ∀ D ∈ Ds, m ≤ D ∧ w.heap[D]? = some (.deferred (some []))
theorem DefOk.nil {m : Nat} {w : World} : DefOk m [] w := ⟨[], List.nodup_nil, rfl, fun D hD => by cases hD⟩
theorem DefOk.step {m B : Nat} {ds : List Deferred} {w w' : World} (h : DefOk m ds w) (b : Bl B w w') : DefOk m ds w' := by
  obtain ⟨Ds, h1, h2, h3⟩ := h
  exact ⟨Ds, h1, h2, fun D hD => ⟨(h3 D hD).1, b.same D _ (h3 D hD).2 rfl⟩⟩
section
variable {B : Nat} {Z0 : Nat → Prop} {G G' G'' : Gh} {h h' h'' : Heap} {w w' w'' : World}
theorem SameKey.trans {key : Key} (a : SameKey G G' key) (b : SameKey G' G'' key) : SameKey G G'' key :=
  ⟨b.1.trans a.1, b.2.1.trans a.2.1, b.2.2.1.trans a.2.2.1, b.2.2.2.trans a.2.2.2⟩
theorem Keep.refl (k : Nat) (ob : Ob) (hs : SameKey G G' (root k)) (hn : ∀ i j, SameKey G G' (nest k i j)) : Keep G G' k ob ob :=
  ⟨fun sz ver fr es e => ⟨ver, fr, es, e, Nat.le_refl _, Nat.le_refl _, fun _ => hs, fun _ i j ns hc => ⟨ns, hc, rfl, hn i j⟩⟩, fun cs e => ⟨cs, e, hs⟩⟩
theorem Keep.dead (k : Nat) (ob : Ob) : Keep G G' k ob .dead := ⟨fun _ _ _ _ e => by simp at e, fun _ e => by simp at e⟩
theorem Ext.refl : Ext G h w G h w := ⟨fun _ x => x, fun _ _ => rfl, fun k gn ob e => ⟨gn, ob, e, Nat.le_refl _, fun _ => Keep.refl k ob (SameKey.refl _ _) fun _ _ => SameKey.refl _ _⟩⟩
theorem Keep.trans {k : Nat} {a b c : Ob} (x : Keep G G' k a b) (y : Keep G' G'' k b c) : Keep G G'' k a c := by
  refine ⟨fun sz ver fr es e => ?_, fun cs e => ?_⟩
  · obtain ⟨ver1, fr1, es1, e1, l1, v1, s1, n1⟩ := y.1 sz ver fr es e
    obtain ⟨ver0, fr0, es0, e0, l0, v0, s0, n0⟩ := x.1 sz ver1 fr1 es1 e1
    refine ⟨ver0, fr0, es0, e0, by omega, by omega, fun hl => (s0 (by omega)).trans (s1 (by omega)), fun hv i j ns hc => ?_⟩
    obtain ⟨ns1, c1, l2, k1⟩ := n0 (by omega) i j ns hc
    obtain ⟨ns0, c0, l3, k0⟩ := n1 (by omega) i j ns1 c1
    exact ⟨ns0, c0, by omega, k1.trans k0⟩
  · obtain ⟨cs1, e1, s1⟩ := y.2 cs e
    obtain ⟨cs0, e0, s0⟩ := x.2 cs1 e1
    exact ⟨cs0, e0, s0.trans s1⟩
theorem Ext.trans (x : Ext G h w G' h' w') (y : Ext G' h' w' G'' h'' w'') : Ext G h w G'' h'' w'' := by
  refine ⟨fun b hb => y.zz b (x.zz b hb), fun b hb => (y.zw b (x.zz b hb)).trans (x.zw b hb), fun k gn ob e => ?_⟩
  obtain ⟨g1, o1, e1, l1, k1⟩ := x.kp k gn ob e
  obtain ⟨g2, o2, e2, l2, k2⟩ := y.kp k g1 o1 e1
  exact ⟨g2, o2, e2, by omega, fun hg => (k1 (by omega)).trans (k2 (by omega))⟩
theorem VRep.ext (x : Ext G h w G' h' w') : ∀ {n : Nat} {v : Value} {p : PV}, VRep G h w n v p → VRep G' h' w' n v p := by
  have base : ∀ {n : Nat} {v : Value} {p : PV}, (∀ cs, p ≠ .agg cs) → (∀ cs, p ≠ .tup cs) → (∀ f a b, p ≠ .fn f a b) → VRep G h w n v p → VRep G' h' w' n v p := by
    intro n v p na nt nf hp
    cases p
    case slc => unfold VRep at hp ⊢; exact PR.mono x.zz x.zw hp
    case own k g gl s o l =>
      unfold VRep at hp ⊢
      obtain ⟨a, c, q1, q2, q3, q4, gn, ob, h1, h2, h3⟩ := hp
      obtain ⟨gn', ob', h4, h5, h6⟩ := x.kp k gn ob h1
      refine ⟨a, c, q1, q2, q3, q4, gn', ob', h4, by omega, fun e sz ver fr es e2 => ?_⟩
      obtain ⟨ver0, fr0, es0, e4, l0, _, e5, _⟩ := (h6 (by omega)).1 sz ver fr es e2
      obtain ⟨h7, h8⟩ := h3 (by omega) sz ver0 fr0 es0 e4
      refine ⟨by omega, fun e3 => ?_⟩
      obtain ⟨a1, a2, a3, a4⟩ := e5 (by omega)
      obtain ⟨b1, b2, b3⟩ := h8 (by omega)
      rw [a1, a2, a3]
      exact ⟨b1, b2, b3⟩
    case nown k g ver i j o l =>
      unfold VRep at hp ⊢
      obtain ⟨a, c, q1, q2, q3, q4, gn, ob, h1, h2, h3⟩ := hp
      obtain ⟨gn', ob', h4, h5, h6⟩ := x.kp k gn ob h1
      refine ⟨a, c, q1, q2, q3, q4, gn', ob', h4, by omega, fun e sz vr fr es e2 => ?_⟩
      obtain ⟨ver0, fr0, es0, e4, _, l0, _, e5⟩ := (h6 (by omega)).1 sz vr fr es e2
      obtain ⟨h7, h8⟩ := h3 (by omega) sz ver0 fr0 es0 e4
      refine ⟨by omega, fun e3 => ?_⟩
      obtain ⟨ns, hc, b1, b2, b3⟩ := h8 (by omega)
      obtain ⟨ns0, c0, l1, a1, a2, a3, a4⟩ := e5 (by omega) i j ns hc
      rw [a1, a2, a4]
      exact ⟨ns0, c0, by omega, b2, b3⟩
    case ptr k g o =>
      unfold VRep at hp ⊢
      obtain ⟨b, q1, gn, ob, h1, h2, h3⟩ := hp
      obtain ⟨gn', ob', h4, h5, h6⟩ := x.kp k gn ob h1
      refine ⟨b, q1, gn', ob', h4, by omega, fun e cs e2 => ?_⟩
      obtain ⟨cs0, e4, a1, _⟩ := (h6 (by omega)).2 cs e2
      rw [a1]
      exact h3 (by omega) cs0 e4
    case eptr k g gl s i j =>
      unfold VRep at hp ⊢
      obtain ⟨b, f, q1, gn, ob, h1, h2, h3⟩ := hp
      obtain ⟨gn', ob', h4, h5, h6⟩ := x.kp k gn ob h1
      refine ⟨b, f, q1, gn', ob', h4, by omega, fun e sz ver fr es e2 => ?_⟩
      obtain ⟨ver0, fr0, es0, e4, l0, _, e5, _⟩ := (h6 (by omega)).1 sz ver fr es e2
      obtain ⟨h7, h8⟩ := h3 (by omega) sz ver0 fr0 es0 e4
      refine ⟨by omega, fun e3 => ?_⟩
      obtain ⟨a1, _⟩ := e5 (by omega)
      rw [a1]
      exact h8 (by omega)
    case nptr k g ver s i j m l =>
      unfold VRep at hp ⊢
      obtain ⟨b, f, q1, gn, ob, h1, h2, h3⟩ := hp
      obtain ⟨gn', ob', h4, h5, h6⟩ := x.kp k gn ob h1
      refine ⟨b, f, q1, gn', ob', h4, by omega, fun e sz vr fr es e2 => ?_⟩
      obtain ⟨ver0, fr0, es0, e4, _, l0, _, e5⟩ := (h6 (by omega)).1 sz vr fr es e2
      obtain ⟨h7, h8⟩ := h3 (by omega) sz ver0 fr0 es0 e4
      refine ⟨by omega, fun e3 => ?_⟩
      obtain ⟨ns, hc, b1, b2, b3⟩ := h8 (by omega)
      obtain ⟨ns0, c0, l1, a1, a2, a3, a4⟩ := e5 (by omega) i j ns hc
      rw [a1, a4]
      exact ⟨ns0, c0, b1, b2, by omega⟩
    case fptr cs =>
      unfold VRep at hp ⊢
      obtain ⟨b, o, h1, h2, h3⟩ := hp
      refine ⟨b, o, h1, x.zz b h2, fun j c hc => ?_⟩
      obtain ⟨h0, u, h4, h5⟩ := h3 j c hc
      exact ⟨h0, u, by rw [World.cell?_of_block (w := w) (a := ⟨b, _, none⟩) (x.zw b h2)]; exact h4, h5.mono x.zz x.zw⟩
    case agg => exact absurd rfl (na _)
    case tup => exact absurd rfl (nt _)
    case fn => exact absurd rfl (nf _ _ _)
    all_goals (unfold VRep at hp ⊢; exact hp)
  intro n
  induction n with
  | zero =>
    intro v p hp
    cases p
    case agg | tup | fn => unfold VRep at hp; exact hp.elim
    all_goals exact base (by simp) (by simp) (by simp) hp
  | succ n ih =>
    intro v p hp
    cases p
    case agg cs => unfold VRep at hp ⊢; obtain ⟨vs, h1, h2⟩ := hp; exact ⟨vs, h1, h2.mono fun _ _ y => ih y⟩
    case tup cs => unfold VRep at hp ⊢; obtain ⟨vs, h1, h2⟩ := hp; exact ⟨vs, h1, h2.mono fun _ _ y => ih y⟩
    case fn f a c => unfold VRep at hp ⊢; obtain ⟨vs, us, h1, h2, h3⟩ := hp; exact ⟨vs, us, h1, h2.mono fun _ _ y => ih y, h3.mono fun _ _ y => ih y⟩
    all_goals exact base (by simp) (by simp) (by simp) hp
theorem VRep.up : ∀ {n : Nat} {v : Value} {p : PV}, VRep G h w n v p → VRep G h w (n + 1) v p := by
  intro n
  induction n with
  | zero =>
    intro v p hp
    cases p
    case agg | tup | fn => unfold VRep at hp; exact hp.elim
    all_goals (unfold VRep at hp ⊢; exact hp)
  | succ n ih =>
    intro v p hp
    cases p
    case agg cs => unfold VRep at hp ⊢; obtain ⟨vs, h1, h2⟩ := hp; exact ⟨vs, h1, h2.mono fun _ _ y => ih y⟩
    case tup cs => unfold VRep at hp ⊢; obtain ⟨vs, h1, h2⟩ := hp; exact ⟨vs, h1, h2.mono fun _ _ y => ih y⟩
    case fn f a c => unfold VRep at hp ⊢; obtain ⟨vs, us, h1, h2, h3⟩ := hp; exact ⟨vs, us, h1, h2.mono fun _ _ y => ih y, h3.mono fun _ _ y => ih y⟩
    all_goals (unfold VRep at hp ⊢; exact hp)
/-- what is of one cell is so at every depth but 0 -/
theorem VRep.cell {n m : Nat} {v : Value} {p : PV} (ha : (∀ cs, p ≠ .agg cs) ∧ (∀ cs, p ≠ .tup cs) ∧ ∀ f a b, p ≠ .fn f a b) (hp : VRep G h w n v p) : VRep G h w m v p := by
  cases p
  case agg => exact absurd rfl (ha.1 _)
  case tup => exact absurd rfl (ha.2.1 _)
  case fn => exact absurd rfl (ha.2.2 _ _ _)
  all_goals (cases n <;> cases m <;> (unfold VRep at hp ⊢; exact hp))
theorem CRep.ext {k i j : Nat} {u : Value} {c : PV} (x : Ext G h w G' h' w') (hk : SameKey G G' (nest k i j)) (hb : G.R (nest k i j) → w'.heap[G.β (nest k i j)]? = w.heap[G.β (nest k i j)]?) (hp : CRep G h w k i j u c) : CRep G' h' w' k i j u c := by
  cases c
  case uslc ns =>
    unfold CRep NRep at hp ⊢
    obtain ⟨a1, a2, a3, a4⟩ := hk
    rw [a1, a2, a3, a4]
    refine ⟨fun r => ?_, hp.2⟩
    obtain ⟨us, T, f, c, h1, h0, h2, h3, h3', h4, h5, h6, h7⟩ := hp.1 r
    refine ⟨us, T, f, c, h1, h0, h2, h3, h3', by rw [hb r]; exact h4, h5, h6, fun i e he => ?_⟩
    obtain ⟨h8, h9⟩ := h7 i e he
    refine ⟨h8, fun j c hc => ?_⟩
    obtain ⟨h10, v, h11, h12⟩ := h9 j c hc
    exact ⟨h10, v, h11, h12.mono x.zz x.zw⟩
  all_goals (unfold CRep at hp ⊢; exact ⟨hp.1, hp.2.ext x⟩)
theorem ORep.ext {k : Nat} {o : Ob} (x : Ext G h w G' h' w') (hk : ∀ y, SameKey G G' (k, y)) (hb : ∀ y, G.R (k, y) → w'.heap[G.β (k, y)]? = w.heap[G.β (k, y)]?) (hp : ORep G h w k o) : ORep G' h' w' k o := by
  cases o with
  | dead => trivial
  | var cs =>
    unfold ORep at hp ⊢
    obtain ⟨r, us, T, h1, h2⟩ := hp
    obtain ⟨a1, a2, _⟩ := hk none
    rw [show G'.β (root k) = G.β (root k) from a1]
    exact ⟨a2.2 r, us, T, by rw [hb none r]; exact h1, h2.mono fun _ _ y => ⟨y.1, y.2.ext x⟩⟩
  | arr sz ver fr es =>
    unfold ORep at hp ⊢
    obtain ⟨a1, a2, a3, a4⟩ := hk none
    rw [show G'.β (root k) = G.β (root k) from a1, show G'.γ (root k) = G.γ (root k) from a3]
    obtain ⟨h1, h2, h3, h4, h5⟩ := hp
    refine ⟨h1, h2, h3, fun r => ?_, fun r => h5 fun y => r (a2.2 y)⟩
    obtain ⟨us, T, h6, h7, h8⟩ := h4 (a2.1 r)
    refine ⟨us, T, by rw [hb none (a2.1 r)]; exact h6, h7, fun i e he => ?_⟩
    obtain ⟨h9, h10⟩ := h8 i e he
    refine ⟨h9, fun j c hc => ?_⟩
    obtain ⟨u, h11, h12⟩ := h10 j c hc
    exact ⟨u, h11, h12.ext x (hk _) (hb _)⟩
def SameOr (G G' : Gh) (h : Heap) (k : Nat) (y : Option (Nat × Nat)) : Prop := SameKey G G' (k, y) ∨ (¬ G'.R (k, y) ∧ ∀ g o, h[k]? = some (g, o) → o = .dead)
/-- ONE OBJECT IS CHANGED (or made anew) -/
theorem HRep.update (r : HRep B Z0 G h w) (k : Nat) (g' : Nat) (o' : Ob) (hk : k < h.length) (x : Ext G h w G' (h.set k (g', o')) w')
    (hs : ∀ k' y, k' ≠ k → SameOr G G' h k' y) (hw : ∀ k' y, k' ≠ k → G.R (k', y) → w'.heap[G.β (k', y)]? = w.heap[G.β (k', y)]?) (hsz : w.heap.size ≤ w'.heap.size)
    (hz : ∀ b, G'.Z b → isC w' b) (hzo : ∀ b, G'.Z b → G.Z b ∨ B ≤ b) (hzn : ∀ k' y, k' ≠ k → G.R (k', y) → ¬ G.Z (G.β (k', y)) → ¬ G'.Z (G.β (k', y)))
    (hl : ∀ y, G'.R (k, y) → B ≤ G'.β (k, y) ∧ isC w' (G'.β (k, y)) ∧ (liveOb o' = true → ¬ G'.Z (G'.β (k, y))) ∧ (∀ y', G'.R (k, y') → G'.β (k, y) = G'.β (k, y') → y = y') ∧ ∀ k' y', k' ≠ k → G'.R (k', y') → G'.β (k, y) ≠ G'.β (k', y'))
    (hf : ∀ sz ver es, o' = .arr sz ver true es → ∀ y, G'.R (k, y) → G'.Z (G'.β (k, y)))
    (ho : ORep G' (h.set k (g', o')) w' k o') : HRep B Z0 G' (h.set k (g', o')) w' := by
  have hs2 : ∀ k' y, k' ≠ k → G'.R (k', y) → SameKey G G' (k', y) := fun k' y hkk hR => (hs k' y hkk).resolve_right fun x => x.1 hR
  refine ⟨Nat.le_trans r.base hsz, fun b hb => (hzo b hb).elim (r.zo b) .inr, hz, fun key hkey => ?_, fun k' g o hko hlv y hR => ?_, fun k' g sz ver es hko y hR => ?_, fun key key' h1 h2 he => ?_, fun k' g o hko => ?_⟩
  · obtain ⟨k', y⟩ := key
    by_cases hkk : k' = k
    · subst hkk; obtain ⟨a, b, _⟩ := hl y hkey; exact ⟨a, b⟩
    · obtain ⟨a1, a2, _⟩ := hs2 k' y hkk hkey
      obtain ⟨b1, b2⟩ := r.lv _ (a2.1 hkey)
      rw [a1]
      exact ⟨b1, b2.eq (hw k' y hkk (a2.1 hkey))⟩
  · by_cases hkk : k' = k
    · subst hkk
      rw [List.getElem?_set_self hk] at hko
      cases hko
      exact (hl y hR).2.2.1 hlv
    · rw [List.getElem?_set_ne (Ne.symm hkk)] at hko
      obtain ⟨a1, a2, _⟩ := hs2 k' y hkk hR
      rw [a1]
      exact hzn k' y hkk (a2.1 hR) (r.nz k' g o hko hlv y (a2.1 hR))
  · by_cases hkk : k' = k
    · subst hkk
      rw [List.getElem?_set_self hk] at hko
      cases hko
      exact hf _ _ _ rfl y hR
    · rw [List.getElem?_set_ne (Ne.symm hkk)] at hko
      obtain ⟨a1, a2, _⟩ := hs2 k' y hkk hR
      rw [a1]
      exact x.zz _ (r.fz k' g sz ver es hko y (a2.1 hR))
  · obtain ⟨k1, y1⟩ := key
    obtain ⟨k2, y2⟩ := key'
    by_cases hk1 : k1 = k <;> by_cases hk2 : k2 = k
    · subst hk1; subst hk2
      rw [(hl y1 h1).2.2.2.1 y2 h2 he]
    · subst hk1
      exact absurd he ((hl y1 h1).2.2.2.2 k2 y2 hk2 h2)
    · subst hk2
      exact absurd he.symm ((hl y2 h2).2.2.2.2 k1 y1 hk1 h1)
    · obtain ⟨a1, a2, _⟩ := hs2 k1 y1 hk1 h1
      obtain ⟨b1, b2, _⟩ := hs2 k2 y2 hk2 h2
      exact r.inj _ _ (a2.1 h1) (b2.1 h2) (a1.symm.trans (he.trans b1))
  · by_cases hkk : k' = k
    · subst hkk
      rw [List.getElem?_set_self hk] at hko
      cases hko
      exact ho
    · rw [List.getElem?_set_ne (Ne.symm hkk)] at hko
      by_cases hd : o = .dead
      · subst hd; trivial
      · exact (r.ob k' g o hko).ext x (fun y => (hs k' y hkk).resolve_right fun x => hd (x.2 g o hko)) (fun y => hw k' y hkk)
theorem HRep.cells (r : HRep B Z0 G h w) (hs : w.heap.size ≤ w'.heap.size) (hc : ∀ b, isC w b → w'.heap[b]? = w.heap[b]?) : HRep B Z0 G h w' ∧ Ext G h w G h w' := by
  have x : Ext G h w G h w' := ⟨fun _ y => y, fun b hb => hc b (r.zb b hb), fun k gn ob e => ⟨gn, ob, e, Nat.le_refl _, fun _ => Keep.refl k ob (SameKey.refl _ _) fun _ _ => SameKey.refl _ _⟩⟩
  exact ⟨⟨Nat.le_trans r.base hs, r.zo, fun b hb => (r.zb b hb).eq (hc b (r.zb b hb)), fun key hk => ⟨(r.lv key hk).1, (r.lv key hk).2.eq (hc _ (r.lv key hk).2)⟩, r.nz, r.fz, r.inj,
    fun k g o ho => (r.ob k g o ho).ext x (fun y => SameKey.refl _ _) fun y hR => hc _ (r.lv _ hR).2⟩, x⟩
end
end Go.Proofs.Ytalgbgeocpbadaa.Am
