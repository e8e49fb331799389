/-
  Rules for running by simp. Xr, Xw: the machine, closed to the kernel, so that a run is checked step by step; nothing that is not yet reached is looked into. It stands at a loop, at a call, at a test that is not decided.
-/
import Derived.Test.YtalgbgeocpbadaaAmZ
namespace Go.Proofs.Ytalgbgeocpbadaa.Am
set_option linter.unusedSimpArgs false
set_option linter.unusedVariables false
set_option linter.unusedSectionVars false
theorem xr_ex : ∃ f : FNs → List XOper → XSt → (XSt → Prop) → Prop, f = xrun := ⟨_, rfl⟩
noncomputable def Xr := Classical.choose xr_ex
theorem Xr_eq : Xr = xrun := Classical.choose_spec xr_ex
theorem xw_ex : ∃ f : FNs → XCode → XPost → List PV → Heap → Prop, f = xwp := ⟨_, rfl⟩
noncomputable def Xw := Classical.choose xw_ex
theorem Xw_eq : Xw = xwp := Classical.choose_spec xw_ex
theorem n_beq {a b : Int} : (a == b) = decide (a = b) := by by_cases h : a = b <;> simp [h]
theorem n_bne {a b : Int} : (a != b) = !decide (a = b) := by by_cases h : a = b <;> simp [h]
theorem n_cast {a b : Nat} : ((a : Int) = (b : Int)) = (a = b) := by apply propext; omega
theorem n_neg {a : Nat} : ((a : Int) < 0) = False := by apply propext; exact ⟨fun h => by omega, fun h => h.elim⟩
/-- what follows a region -/
def KN (Q : XPost) (st : XSt) : Prop := Q .normal st.vars st.heap
/-- the operation's outcome -/
def Xo (FN : FNs) (o : Option Eff) (var : Option Nat) (xs : List XOper) (st : XSt) (Q : XSt → Prop) : Prop := match o with
  | some (p, ws) => Xr FN xs ⟨st.loc ++ [p], setO st.vars var p, upd st.heap ws⟩ Q
  | none => False
/-- a call -/
def Xc (FN : FNs) (f : FuncId) (szs : List Nat) (args : List PV) (own : Bool) (ks : List (Nat × Nat)) (hide : List Nat) (var : Option Nat) (xs : List XOper) (st : XSt) (Q : XSt → Prop) : Prop :=
  ∃ r, FN.fn f szs args r ∧ callOk st.heap.length ks own r = true ∧
    Xr FN xs ⟨st.loc ++ [thV (ksF ks) (genF (lkOf st.heap hide)) r], setO st.vars var (thV (ksF ks) (genF (lkOf st.heap hide)) r), upd st.heap (thWs (ksF ks) (genF (lkOf st.heap hide)) 0 (rcells r))⟩ Q
/-- a call of a function value -/
def Xv (FN : FNs) (f : PV) (args : List PV) (var : Option Nat) (xs : List XOper) (st : XSt) (Q : XSt → Prop) : Prop :=
  ∃ r ws, FN.fi f args st.heap r ws ∧ Xr FN xs ⟨st.loc ++ [r], setO st.vars var r, upd st.heap ws⟩ Q
/-- a call of a value that may be a loop's body -/
def Xy (FN : FNs) (f : PV) (args : List PV) (var : Option Nat) (xs : List XOper) (st : XSt) (Q : XSt → Prop) : Prop :=
  FN.fy f args st.vars st.heap fun r vs h => h.length = st.heap.length ∧ Xr FN xs ⟨st.loc ++ [r], setO vs var r, h⟩ Q
/-- what a round of a loop over a function does -/
def loopY (FN : FNs) (ps : List (Option Nat)) (a b : XCode) (vs : List PV) : YT := fun args h1 k => args.length = ps.length ∧ Xw FN a (xasg fun vs2 h2 => Xw FN b (fun e _ h3 => k (pend e) h3) vs2 h2) (setPs vs ps args) h1
/-- a loop over a function -/
def Xi (FN : FNs) (v : PV) (ps : List (Option Nat)) (a b : XCode) (Q : XPost) (vs : List PV) (h : Heap) : Prop :=
  FN.it v (loopY FN ps a b vs) h fun p h' => Q (unp p) vs h'
def Xe (FN : FNs) (op : XOp) (var : Option Nat) (hide : List Nat) (xs : List XOper) (st : XSt) (Q : XSt → Prop) : Prop := match op with
  | .call f args ks _ => Xc FN f (ks.map (·.2)) (args.map fun a => fzV (lkOf st.heap hide) (evO st.loc st.vars a)) ((args.map (evO st.loc st.vars)).any (hasOwn (lkOf st.heap hide))) ks hide var xs st Q
  | .callv f args => Xv FN (evO st.loc st.vars f) (args.map (evO st.loc st.vars)) var xs st Q
  | .cally f args => Xy FN (evO st.loc st.vars f) (args.map (evO st.loc st.vars)) var xs st Q
  | op => Xo FN (aop (evO st.loc st.vars) (lkOf st.heap hide) op) var xs st Q
def Xg (FN : FNs) (g : Option Bool) (op : XOp) (var : Option Nat) (hide : List Nat) (xs : List XOper) (st : XSt) (Q : XSt → Prop) : Prop := match g with
  | none => False
  | some false => Xr FN xs ⟨st.loc ++ [.tup []], setO st.vars var (.tup []), st.heap⟩ Q
  | some true => Xe FN op var hide xs st Q
section
variable {FN : FNs} {Q : XPost} {vs : List PV} {h : Heap}
theorem r_nil {l : List PV} : Xr FN [] ⟨l, vs, h⟩ (KN Q) = Q .normal vs h := by rw [Xr_eq]; rfl
theorem r_cons {op : XOp} {var : Option Nat} {g : Option (Opd × Bool)} {hide : List Nat} {xs : List XOper} {l : List PV} {K : XSt → Prop} : Xr FN (⟨op, var, g, hide⟩ :: xs) ⟨l, vs, h⟩ K = Xg FN (gdO l vs g) op var hide xs ⟨l, vs, h⟩ K := by
  rw [Xr_eq]
  unfold Xg
  cases hg : gdO l vs g with
  | none => simp [xrun, hg]
  | some b =>
    cases b with
    | false => rw [Xr_eq]; simp [xrun, hg]
    | true =>
      unfold Xe
      cases op <;> simp only [xrun, hg, Xc, Xo, Xv, Xy, Xr_eq] <;> first | rfl | skip
theorem g_f {op : XOp} {var : Option Nat} {hide : List Nat} {xs : List XOper} {l : List PV} {K : XSt → Prop} : Xg FN (some false) op var hide xs ⟨l, vs, h⟩ K = Xr FN xs ⟨l ++ [.tup []], setO vs var (.tup []), h⟩ K := rfl
theorem g_t {op : XOp} {var : Option Nat} {hide : List Nat} {xs : List XOper} {st : XSt} {K : XSt → Prop} : Xg FN (some true) op var hide xs st K = Xe FN op var hide xs st K := rfl
theorem e_mv {x} {var : Option Nat} {hide : List Nat} {xs : List XOper} {l : List PV} {K : XSt → Prop} : Xe FN (.mv x) var hide xs ⟨l, vs, h⟩ K = Xo FN (aop (evO l vs) (lkOf h hide) (.mv x)) var xs ⟨l, vs, h⟩ K := rfl
theorem e_pick {c a b} {var : Option Nat} {hide : List Nat} {xs : List XOper} {l : List PV} {K : XSt → Prop} : Xe FN (.pick c a b) var hide xs ⟨l, vs, h⟩ K = Xo FN (aop (evO l vs) (lkOf h hide) (.pick c a b)) var xs ⟨l, vs, h⟩ K := rfl
theorem e_alloc {k zs} {var : Option Nat} {hide : List Nat} {xs : List XOper} {l : List PV} {K : XSt → Prop} : Xe FN (.alloc k zs) var hide xs ⟨l, vs, h⟩ K = Xo FN (aop (evO l vs) (lkOf h hide) (.alloc k zs)) var xs ⟨l, vs, h⟩ K := rfl
theorem e_box {k x} {var : Option Nat} {hide : List Nat} {xs : List XOper} {l : List PV} {K : XSt → Prop} : Xe FN (.box k x) var hide xs ⟨l, vs, h⟩ K = Xo FN (aop (evO l vs) (lkOf h hide) (.box k x)) var xs ⟨l, vs, h⟩ K := rfl
theorem e_build {zs parts} {var : Option Nat} {hide : List Nat} {xs : List XOper} {l : List PV} {K : XSt → Prop} : Xe FN (.build zs parts) var hide xs ⟨l, vs, h⟩ K = Xo FN (aop (evO l vs) (lkOf h hide) (.build zs parts)) var xs ⟨l, vs, h⟩ K := rfl
theorem e_mkarr {k sz zs parts} {var : Option Nat} {hide : List Nat} {xs : List XOper} {l : List PV} {K : XSt → Prop} : Xe FN (.mkarr k sz zs parts) var hide xs ⟨l, vs, h⟩ K = Xo FN (aop (evO l vs) (lkOf h hide) (.mkarr k sz zs parts)) var xs ⟨l, vs, h⟩ K := rfl
theorem e_lit {sz zs parts} {var : Option Nat} {hide : List Nat} {xs : List XOper} {l : List PV} {K : XSt → Prop} : Xe FN (.lit sz zs parts) var hide xs ⟨l, vs, h⟩ K = Xo FN (aop (evO l vs) (lkOf h hide) (.lit sz zs parts)) var xs ⟨l, vs, h⟩ K := rfl
theorem e_load {agg sz a} {var : Option Nat} {hide : List Nat} {xs : List XOper} {l : List PV} {K : XSt → Prop} : Xe FN (.load agg sz a) var hide xs ⟨l, vs, h⟩ K = Xo FN (aop (evO l vs) (lkOf h hide) (.load agg sz a)) var xs ⟨l, vs, h⟩ K := rfl
theorem e_loadV {agg sz a} {var : Option Nat} {hide : List Nat} {xs : List XOper} {l : List PV} {K : XSt → Prop} : Xe FN (.loadV agg sz a) var hide xs ⟨l, vs, h⟩ K = Xo FN (aop (evO l vs) (lkOf h hide) (.loadV agg sz a)) var xs ⟨l, vs, h⟩ K := rfl
theorem e_store {sz a v} {var : Option Nat} {hide : List Nat} {xs : List XOper} {l : List PV} {K : XSt → Prop} : Xe FN (.store sz a v) var hide xs ⟨l, vs, h⟩ K = Xo FN (aop (evO l vs) (lkOf h hide) (.store sz a v)) var xs ⟨l, vs, h⟩ K := rfl
theorem e_nilchk {x} {var : Option Nat} {hide : List Nat} {xs : List XOper} {l : List PV} {K : XSt → Prop} : Xe FN (.nilchk x) var hide xs ⟨l, vs, h⟩ K = Xo FN (aop (evO l vs) (lkOf h hide) (.nilchk x)) var xs ⟨l, vs, h⟩ K := rfl
theorem e_bin {op bt x y} {var : Option Nat} {hide : List Nat} {xs : List XOper} {l : List PV} {K : XSt → Prop} : Xe FN (.bin op bt x y) var hide xs ⟨l, vs, h⟩ K = Xo FN (aop (evO l vs) (lkOf h hide) (.bin op bt x y)) var xs ⟨l, vs, h⟩ K := rfl
theorem e_un {op x} {var : Option Nat} {hide : List Nat} {xs : List XOper} {l : List PV} {K : XSt → Prop} : Xe FN (.un op x) var hide xs ⟨l, vs, h⟩ K = Xo FN (aop (evO l vs) (lkOf h hide) (.un op x)) var xs ⟨l, vs, h⟩ K := rfl
theorem e_conv {k x} {var : Option Nat} {hide : List Nat} {xs : List XOper} {l : List PV} {K : XSt → Prop} : Xe FN (.conv k x) var hide xs ⟨l, vs, h⟩ K = Xo FN (aop (evO l vs) (lkOf h hide) (.conv k x)) var xs ⟨l, vs, h⟩ K := rfl
theorem e_convId {x} {var : Option Nat} {hide : List Nat} {xs : List XOper} {l : List PV} {K : XSt → Prop} : Xe FN (.convId x) var hide xs ⟨l, vs, h⟩ K = Xo FN (aop (evO l vs) (lkOf h hide) (.convId x)) var xs ⟨l, vs, h⟩ K := rfl
theorem e_convStr {x} {var : Option Nat} {hide : List Nat} {xs : List XOper} {l : List PV} {K : XSt → Prop} : Xe FN (.convStr x) var hide xs ⟨l, vs, h⟩ K = Xo FN (aop (evO l vs) (lkOf h hide) (.convStr x)) var xs ⟨l, vs, h⟩ K := rfl
theorem e_makeSlice {k sz bytes z len cap} {var : Option Nat} {hide : List Nat} {xs : List XOper} {l : List PV} {K : XSt → Prop} : Xe FN (.makeSlice k sz bytes z len cap) var hide xs ⟨l, vs, h⟩ K = Xo FN (aop (evO l vs) (lkOf h hide) (.makeSlice k sz bytes z len cap)) var xs ⟨l, vs, h⟩ K := rfl
theorem e_slice {st sz x lo hi mx} {var : Option Nat} {hide : List Nat} {xs : List XOper} {l : List PV} {K : XSt → Prop} : Xe FN (.slice st sz x lo hi mx) var hide xs ⟨l, vs, h⟩ K = Xo FN (aop (evO l vs) (lkOf h hide) (.slice st sz x lo hi mx)) var xs ⟨l, vs, h⟩ K := rfl
theorem e_fieldAddr {off x} {var : Option Nat} {hide : List Nat} {xs : List XOper} {l : List PV} {K : XSt → Prop} : Xe FN (.fieldAddr off x) var hide xs ⟨l, vs, h⟩ K = Xo FN (aop (evO l vs) (lkOf h hide) (.fieldAddr off x)) var xs ⟨l, vs, h⟩ K := rfl
theorem e_field {agg off sz x} {var : Option Nat} {hide : List Nat} {xs : List XOper} {l : List PV} {K : XSt → Prop} : Xe FN (.field agg off sz x) var hide xs ⟨l, vs, h⟩ K = Xo FN (aop (evO l vs) (lkOf h hide) (.field agg off sz x)) var xs ⟨l, vs, h⟩ K := rfl
theorem e_indexAddr {sz x i} {var : Option Nat} {hide : List Nat} {xs : List XOper} {l : List PV} {K : XSt → Prop} : Xe FN (.indexAddr sz x i) var hide xs ⟨l, vs, h⟩ K = Xo FN (aop (evO l vs) (lkOf h hide) (.indexAddr sz x i)) var xs ⟨l, vs, h⟩ K := rfl
theorem e_indexAddrA {n sz x i} {var : Option Nat} {hide : List Nat} {xs : List XOper} {l : List PV} {K : XSt → Prop} : Xe FN (.indexAddrA n sz x i) var hide xs ⟨l, vs, h⟩ K = Xo FN (aop (evO l vs) (lkOf h hide) (.indexAddrA n sz x i)) var xs ⟨l, vs, h⟩ K := rfl
theorem e_indexA {agg n sz x i} {var : Option Nat} {hide : List Nat} {xs : List XOper} {l : List PV} {K : XSt → Prop} : Xe FN (.indexA agg n sz x i) var hide xs ⟨l, vs, h⟩ K = Xo FN (aop (evO l vs) (lkOf h hide) (.indexA agg n sz x i)) var xs ⟨l, vs, h⟩ K := rfl
theorem e_indexS {x i} {var : Option Nat} {hide : List Nat} {xs : List XOper} {l : List PV} {K : XSt → Prop} : Xe FN (.indexS x i) var hide xs ⟨l, vs, h⟩ K = Xo FN (aop (evO l vs) (lkOf h hide) (.indexS x i)) var xs ⟨l, vs, h⟩ K := rfl
theorem e_extract {x i} {var : Option Nat} {hide : List Nat} {xs : List XOper} {l : List PV} {K : XSt → Prop} : Xe FN (.extract x i) var hide xs ⟨l, vs, h⟩ K = Xo FN (aop (evO l vs) (lkOf h hide) (.extract x i)) var xs ⟨l, vs, h⟩ K := rfl
theorem e_cally {f args} {var : Option Nat} {hide : List Nat} {xs : List XOper} {l : List PV} {K : XSt → Prop} : Xe FN (.cally f args) var hide xs ⟨l, vs, h⟩ K = Xy FN (evO l vs f) (args.map (evO l vs)) var xs ⟨l, vs, h⟩ K := rfl
theorem e_stuck {var : Option Nat} {hide : List Nat} {xs : List XOper} {l : List PV} {K : XSt → Prop} : Xe FN .stuck var hide xs ⟨l, vs, h⟩ K = False := rfl
theorem e_callv {f args} {var : Option Nat} {hide : List Nat} {xs : List XOper} {l : List PV} {K : XSt → Prop} : Xe FN (.callv f args) var hide xs ⟨l, vs, h⟩ K = Xv FN (evO l vs f) (args.map (evO l vs)) var xs ⟨l, vs, h⟩ K := rfl
theorem e_len {st x} {var : Option Nat} {hide : List Nat} {xs : List XOper} {l : List PV} {K : XSt → Prop} : Xe FN (.len st x) var hide xs ⟨l, vs, h⟩ K = Xo FN (aop (evO l vs) (lkOf h hide) (.len st x)) var xs ⟨l, vs, h⟩ K := rfl
theorem e_lenK {n} {var : Option Nat} {hide : List Nat} {xs : List XOper} {l : List PV} {K : XSt → Prop} : Xe FN (.lenK n) var hide xs ⟨l, vs, h⟩ K = Xo FN (aop (evO l vs) (lkOf h hide) (.lenK n)) var xs ⟨l, vs, h⟩ K := rfl
theorem e_minmax {mx ys} {var : Option Nat} {hide : List Nat} {xs : List XOper} {l : List PV} {K : XSt → Prop} : Xe FN (.minmax mx ys) var hide xs ⟨l, vs, h⟩ K = Xo FN (aop (evO l vs) (lkOf h hide) (.minmax mx ys)) var xs ⟨l, vs, h⟩ K := rfl
theorem e_append {k sz bytes mode s x} {var : Option Nat} {hide : List Nat} {xs : List XOper} {l : List PV} {K : XSt → Prop} : Xe FN (.append k sz bytes mode s x) var hide xs ⟨l, vs, h⟩ K = Xo FN (aop (evO l vs) (lkOf h hide) (.append k sz bytes mode s x)) var xs ⟨l, vs, h⟩ K := rfl
theorem e_copy {sz d s} {var : Option Nat} {hide : List Nat} {xs : List XOper} {l : List PV} {K : XSt → Prop} : Xe FN (.copy sz d s) var hide xs ⟨l, vs, h⟩ K = Xo FN (aop (evO l vs) (lkOf h hide) (.copy sz d s)) var xs ⟨l, vs, h⟩ K := rfl
theorem e_mkfn {f first captured} {var : Option Nat} {hide : List Nat} {xs : List XOper} {l : List PV} {K : XSt → Prop} : Xe FN (.mkfn f first captured) var hide xs ⟨l, vs, h⟩ K = Xo FN (aop (evO l vs) (lkOf h hide) (.mkfn f first captured)) var xs ⟨l, vs, h⟩ K := rfl
theorem e_call {f : FuncId} {args : List Opd} {ks : List (Nat × Nat)} {al : Bool} {var : Option Nat} {hide : List Nat} {xs : List XOper} {l : List PV} {K : XSt → Prop} : Xe FN (.call f args ks al) var hide xs ⟨l, vs, h⟩ K =
  Xc FN f (ks.map (·.2)) (args.map fun a => fzV (lkOf h hide) (evO l vs a)) ((args.map (evO l vs)).any (hasOwn (lkOf h hide))) ks hide var xs ⟨l, vs, h⟩ K := rfl
theorem o_some {p : PV} {ws : List (Nat × Row)} {var : Option Nat} {xs : List XOper} {l : List PV} {K : XSt → Prop} : Xo FN (some (p, ws)) var xs ⟨l, vs, h⟩ K = Xr FN xs ⟨l ++ [p], setO vs var p, upd h ws⟩ K := rfl
theorem o_none {var : Option Nat} {xs : List XOper} {st : XSt} {K : XSt → Prop} : Xo FN none var xs st K = False := rfl
/-- A CALL of a function value -/
theorem callv_of {f : PV} {args : List PV} {var : Option Nat} {xs : List XOper} {l : List PV} {K : XSt → Prop} {r : PV} {ws : List (Nat × Row)} (hf : FN.fi f args h r ws)
    (hk : Xr FN xs ⟨l ++ [r], setO vs var r, upd h ws⟩ K) : Xv FN f args var xs ⟨l, vs, h⟩ K := ⟨r, ws, hf, hk⟩
/-- A CALL, by what its function gives -/
theorem call_of {f : FuncId} {szs : List Nat} {args : List PV} {own : Bool} {ks : List (Nat × Nat)} {hide : List Nat} {var : Option Nat} {xs : List XOper} {l : List PV} {K : XSt → Prop} {r : PV} (hf : FN.fn f szs args r)
    (hk : callOk h.length ks own r = true ∧ Xr FN xs ⟨l ++ [thV (ksF ks) (genF (lkOf h hide)) r], setO vs var (thV (ksF ks) (genF (lkOf h hide)) r), upd h (thWs (ksF ks) (genF (lkOf h hide)) 0 (rcells r))⟩ K) :
    Xc FN f szs args own ks hide var xs ⟨l, vs, h⟩ K := ⟨r, hf, hk⟩
theorem r_skip : Xw FN .skip Q vs h = Q .normal vs h := by rw [Xw_eq]; rfl
theorem r_reg {xs : List XOper} : Xw FN (.reg xs) Q vs h = (sitesIn h.length xs = true ∧ Xr FN xs ⟨[], vs, h⟩ (KN Q)) := by rw [Xw_eq, Xr_eq]; rfl
theorem r_seq {a b : XCode} : Xw FN (.seq a b) Q vs h = Xw FN a (xthen (Xw FN b Q) Q) vs h := by rw [Xw_eq]; rfl
theorem r_condT {c : Opd} {a b : XCode} (hc : evO [] vs c = .bool true) : Xw FN (.cond c a b) Q vs h = Xw FN a Q vs h := by
  rw [Xw_eq]; simp only [xwp, hc]
theorem r_condF {c : Opd} {a b : XCode} (hc : evO [] vs c = .bool false) : Xw FN (.cond c a b) Q vs h = Xw FN b Q vs h := by
  rw [Xw_eq]; simp only [xwp, hc]
/-- a test that is not decided -/
theorem cond_of {c : Opd} {a b : XCode} {t : Bool} (hc : evO [] vs c = .bool t) (h1 : t = true → Xw FN a Q vs h) (h2 : t = false → Xw FN b Q vs h) : Xw FN (.cond c a b) Q vs h := by
  cases t
  · rw [r_condF hc]; exact h2 rfl
  · rw [r_condT hc]; exact h1 rfl
theorem r_block {id : Nat} {b : XCode} : Xw FN (.block id b) Q vs h = Xw FN b (xin id Q) vs h := by rw [Xw_eq]; rfl
theorem r_frz {l : List (Nat × Bool)} {b : XCode} : Xw FN (.frz l b) Q vs h = Xw FN b Q vs (frzH l h) := by rw [Xw_eq]; rfl
theorem r_rfor {g : Opd} {ps : List (Option Nat)} {a b : XCode} : Xw FN (.rfor g ps a b) Q vs h = Xi FN (evO [] vs g) ps a b Q vs h := by unfold Xi loopY; rw [Xw_eq]; rfl
theorem x_normal {K : List PV → Heap → Prop} : xasg K .normal vs h = K vs h := rfl
theorem r_mat {v : Nat} {c : Option Nat} {k sz : Nat} {b : XCode} : Xw FN (.mat v c k sz b) Q vs h = Xw FN b Q (matP v c k sz vs h).1 (matP v c k sz vs h).2 := by rw [Xw_eq]; rfl
theorem r_exit {id : Nat} : Xw FN (.exit id) Q vs h = Q (.exit id) vs h := by rw [Xw_eq]; rfl
theorem r_ret : Xw FN .ret Q vs h = Q .ret vs h := by rw [Xw_eq]; rfl
theorem t_normal {K : List PV → Heap → Prop} : xthen K Q .normal vs h = K vs h := rfl
theorem t_exit {K : List PV → Heap → Prop} {id : Nat} : xthen K Q (.exit id) vs h = Q (.exit id) vs h := rfl
theorem t_ret {K : List PV → Heap → Prop} : xthen K Q .ret vs h = Q .ret vs h := rfl
theorem i_normal {id : Nat} : xin id Q .normal vs h = Q .normal vs h := rfl
theorem i_exit {id i : Nat} : xin id Q (.exit i) vs h = if i = id then Q .normal vs h else Q (.exit i) vs h := rfl
theorem i_ret {id : Nat} : xin id Q .ret vs h = Q .ret vs h := rfl
/-- A LOOP: a relation on settled states, and a measure; what follows stands as Q' -/
theorem loopX {σ : Type} (I : σ → List PV → Heap → Prop) (μ : σ → Nat) {lv : List Nat} {c0 : Nat} {b : XCode} (s : σ) (hstart : settled lv c0 vs h (I s))
    (hround : ∀ s vs h, I s vs h → ∀ Q' : XPost, (∀ s' vs h, μ s' < μ s → settled lv c0 vs h (I s') → Q' .normal vs h) → (∀ id vs h, Q (.exit id) vs h → Q' (.exit id) vs h) → (∀ vs h, Q .ret vs h → Q' .ret vs h) → Xw FN b Q' vs h) : Xw FN (.loopS lv c0 b) Q vs h := by
  rw [Xw_eq] at hround ⊢
  refine loopS_rule I μ s hstart fun s vs h hI => hround s vs h hI _ (fun s' vs h h1 h2 => ⟨h2.1, s', h2.2, h1⟩) (fun _ _ _ => id) fun _ _ => id
theorem Xw_mono {c : XCode} {Q Q' : XPost} (hq : ∀ e vs h, Q e vs h → Q' e vs h) (hh : Xw FN c Q vs h) : Xw FN c Q' vs h := by
  rw [Xw_eq] at hh ⊢; exact xwp_mono hq hh
end
section
variable {P : Program}
/-- A CALL of a function value that may be a loop's body -/
theorem cally_of {f : PV} {args vs : List PV} {h : Heap} {var : Option Nat} {xs : List XOper} {l : List PV} {K : XSt → Prop} {r : PV} {ws : List (Nat × Row)} (hf : FI P f args h r ws)
    (hk : Xr (fns P) xs ⟨l ++ [r], setO vs var r, upd h ws⟩ K) : Xy (fns P) f args var xs ⟨l, vs, h⟩ K := ⟨r, ws, hf, upd_length _ _, hk⟩
/-- what a body's end gives -/
def fin (rs : List (Nat × Option (Bool × Nat))) (szs : List Nat) (r : PV) (vs : List PV) (h : Heap) : Prop :=
  ∃ l, resVs (lkOf h []) vs rs = some l ∧ nodupN (outIds (oneV l)) = true ∧ szsOk szs 0 ((comps (oneV l)).flatMap ecells) = true ∧ rvV (lkOf h []) (oneV l) = r
theorem fn_introX (hm : P.follows .mixedOrders = true) {f : FuncId} {X : XFn} {s0 : Nat} (hc : compFn P f = some { X with sites := s0, body := strip X.body }) (n : Nat) {szs : List Nat} {args : List PV} {r : PV} (hlen : args.length ≤ X.ntmps)
    (h : ∀ Q : XPost, (∀ vs h, fin X.results szs r vs h → Q .ret vs h) → (∀ vs h, fin X.results szs r vs h → Q .normal vs h) → Xw (fns P) X.body Q (X.vars.map fun s => args.getD s .undef) (List.replicate n (0, .dead))) : Fn P f szs args r :=
  fn_introS hm hc (n := n) hlen (by rw [← Xw_eq]; exact h _ (fun _ _ h => ⟨trivial, h⟩) fun _ _ h => ⟨trivial, h⟩)
end
end Go.Proofs.Ytalgbgeocpbadaa.Am
