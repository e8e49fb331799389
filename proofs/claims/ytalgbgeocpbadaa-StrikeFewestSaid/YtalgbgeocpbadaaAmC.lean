/-
  The program's operations as the plain machine's: the types looked up, the slots numbered.
-/
import Derived.Test.YtalgbgeocpbadaaAmA
namespace Go.Proofs.Ytalgbgeocpbadaa.Am
set_option linter.unusedSimpArgs false
set_option linter.unusedVariables false
set_option linter.unusedSectionVars false

/-- a constant -/
def ofC : Value → Option PV
  | .bool b => some (.bool b)
  | .int k n => some (.int k n)
  | .string s => some (.str s)
  | .pointer none => some (.lit (.pointer none))
  | .slice none 0 0 => some .nils
  | .nilFunc => some (.lit .nilFunc)
  | .nilIface => some (.lit .nilIface)
  | .map none => some (.lit (.map none))
  | _ => none
def ofCs : List Value → Option (List PV)
  | [] => some []
  | c :: cs => match ofC c, ofCs cs with
    | some a, some b => some (a :: b)
    | _, _ => none
def ofV : Value → Option PV
  | .agg cs => (ofCs cs.toList).map .agg
  | v => ofC v

def infoA (P : Program) (t : TypeId) : Option Bool := match P.underlying t with
  | some (.struct _) | some (.array _ _) => some true
  | some _ => some false
  | none => none
def sizeA (P : Program) (t : TypeId) : Option Nat := (P.info? t).map (·.size)
def zeroA (P : Program) (t : TypeId) : Option PV := match P.info? t with
  | some i => match i.zero with
    | some z => ofV z
    | none => none
  | none => none
def bytesA (P : Program) (t : TypeId) : Option Nat := (P.info? t).map (·.bytes)
def fieldA (P : Program) (t : TypeId) (f : Nat) : Option Field := match P.underlying t with
  | some (.struct fs) => fs[f]?
  | _ => none
def elemA (P : Program) (t : TypeId) : Option TypeId := match P.underlying t with
  | some (.slice e) => some e
  | _ => none
def plainT (P : Program) (t : TypeId) : Bool := match P.underlying t with
  | some .bool | some (.int _) | some .string => true
  | _ => false

def boolT (P : Program) (t : TypeId) : Bool := match P.underlying t with
  | some .bool => true
  | _ => false

def optM {α β : Type} (f : α → Option β) : List α → Option (List β)
  | [] => some []
  | a :: l => match f a, optM f l with
    | some b, some m => some (b :: m)
    | _, _ => none
/-- the places of a struct's parts -/
def placesA (P : Program) : List Field → Option (List (Nat × Nat))
  | [] => some []
  | f :: fs => match P.info? f.type, placesA P fs with
    | some i, some l => some ((f.offset, i.size) :: l)
    | _, _ => none
/-- an operand that need not be there -/
def optO (rd : Operand → Option Opd) : Option Operand → Option (Option Opd)
  | none => some none
  | some x => (rd x).map some

/-- the cells of a type: 0, or the size of a slice's elements -/
def cellKinds (P : Program) : Nat → TypeId → Option (List Nat)
  | 0, _ => none
  | n + 1, t => match P.underlying t with
    | some (.slice e) => (sizeA P e).map ([·])
    | some (.struct fs) => (optM (fun (f : Field) => cellKinds P n f.type) fs.toList).map List.flatten
    | some (.array m e) => (cellKinds P n e).map fun l => (List.replicate m l).flatten
    | some (.tuple ts) => (optM (cellKinds P n) ts.toList).map List.flatten
    | some _ => some [0]
    | none => none
def numbered (k : Nat) : List Nat → List (Nat × Nat)
  | [] => []
  | 0 :: l => (0, 0) :: numbered k l
  | s :: l => (k, s) :: numbered (k + 1) l

def compBuiltin (P : Program) (rd : Operand → Option Opd) (k : Nat) (app : Nat × Option Nat) (b : Builtin) (args : List Operand) (ts : List TypeId) : Option XOp :=
  match b, args, ts with
  | .len, [x], [t] => match P.underlying t with
    | some .string => (rd x).map (.len true)
    | some (.slice _) => (rd x).map (.len false)
    | some (.array n _) => some (.lenK n)
    | _ => none
  | .min, x :: xs, t :: _ => match P.underlying t, optM rd (x :: xs) with
    | some (.int _), some ys => some (.minmax false ys)
    | _, _ => none
  | .max, x :: xs, t :: _ => match P.underlying t, optM rd (x :: xs) with
    | some (.int _), some ys => some (.minmax true ys)
    | _, _ => none
  | .append, [s, x], [t, u] => match P.underlying t with
    | some (.slice e) => match sizeA P e, bytesA P e, (zeroA P e), rd s, rd x with
      | some sz, some by_, some z, some s, some x => if sz ≠ 0 ∧ by_ ≠ 0 ∧ (ecells z).length = sz ∧ u = t then some (.append (app.2.getD k) sz by_ app.1 s x) else none
      | _, _, _, _, _ => none
    | _ => none
  | .copy, [d, s], [t, _] => match P.underlying t with
    | some (.slice e) => match sizeA P e, rd d, rd s with
      | some sz, some d, some s => if sz ≠ 0 then some (.copy sz d s) else none
      | _, _, _ => none
    | _ => none
  | _, _, _ => none

/-- pointers and function values are not passed as frozen memory -/
def innerT (P : Program) (t : TypeId) : Bool := match P.underlying t with
  | some (.pointer _) | some (.func ..) => true
  | some (.tuple ts) => ts.toList.any fun t => match P.underlying t with
    | some (.pointer _) | some (.func ..) => true
    | _ => false
  | _ => false
def innerCall (P : Program) (ats : List TypeId) (ty : TypeId) : Bool := ats.any (innerT P) || innerT P ty
/-- one operation; k: the number of the first object that it may make; app: how 'append' goes, and the array that it appends to; al: no order is drawn -/
def compOp (P : Program) (rd : Operand → Option Opd) (k : Nat) (app : Nat × Option Nat) (al : Bool) (type : TypeId) : Op → Option XOp
  | .move x | .assign x => (rd x).map .mv
  | .pick c a b => match rd c, rd a, rd b with
    | some c, some a, some b => some (.pick c a b)
    | _, _, _ => none
  | .alloc e => (zeroA P e).map fun z => .alloc k (ecells z)
  | .box _ x => (rd x).map (.box k)
  | .build t ps => match zeroA P t, P.underlying t with
    | some z, some (.struct fs) => match placesA P fs.toList with
      | some places => match optM (fun (p : Nat × Operand) => match places[p.1]?, rd p.2 with
          | some q, some x => some (q.1, q.2, x)
          | _, _ => none) ps.toList with
        | some l => some (.build (ecells z) l)
        | none => none
      | none => none
    | some z, some (.array _ e) => match sizeA P e, optM (fun (p : Nat × Operand) => (rd p.2).map fun x => (p.1, x)) ps.toList with
      | some s, some l => some (.build (ecells z) (l.map fun p => (p.1 * s, s, p.2)))
      | _, _ => none
    | _, _ => none
  | .buildSlice t n ps => match elemA P t with
    | some e => match sizeA P e, zeroA P e, optM (fun (p : Nat × Operand) => (rd p.2).map fun x => (p.1, x)) ps.toList with
      | some s, some z, some l => if s ≠ 0 ∧ n * s ≤ 16777216 ∧ (ecells z).length = s then some (if app.1 = 3 then .lit s (List.replicate n z) l else .mkarr k s (List.replicate n z) l) else none
      | _, _, _ => none
    | none => none
  | .load t a => match infoA P t, sizeA P t, rd a with
    | some g, some s, some a => if s ≠ 0 then some (if app.1 = 5 then .loadV g s a else .load g s a) else none
    | _, _, _ => none
  | .store t a v => match sizeA P t, rd a, rd v with
    | some s, some a, some v => if s ≠ 0 then some (.store s a v) else none
    | _, _, _ => none
  | .nilCheck x => (rd x).map .nilchk
  | .binOp op t x y _ => if op = .eql ∨ op = .neq then (if plainT P t then (match rd x, rd y with
      | some x, some y => some (.bin op (boolT P t) x y)
      | _, _ => none) else none) else (match rd x, rd y with
      | some x, some y => some (.bin op (boolT P t) x y)
      | _, _ => none)
  | .unOp op _ x => (rd x).map (.un op)
  | .convert s d x => match P.underlying s, P.underlying d with
    | some (.int _), some (.int k) => (rd x).map (.conv k)
    | some .string, some .string => (rd x).map .convId
    | _, _ => none
  | .makeSlice t l c => match elemA P t with
    | some e => match sizeA P e, bytesA P e, zeroA P e, rd l, rd c with
      | some s, some b, some z, some l, some c => if s ≠ 0 ∧ (ecells z).length = s ∧ (ecells z).all one then some (.makeSlice k s b (purE z) l c) else none
      | _, _, _, _, _ => none
    | none => none
  | .slice t x lo hi mx => match P.underlying t with
    | some .string => match rd x, optO rd lo, optO rd hi, optO rd mx with
      | some x, some lo, some hi, some mx => some (.slice true 0 x lo hi mx)
      | _, _, _, _ => none
    | some (.slice e) => match sizeA P e, rd x, optO rd lo, optO rd hi, optO rd mx with
      | some s, some x, some lo, some hi, some mx => some (.slice false s x lo hi mx)
      | _, _, _, _, _ => none
    | _ => none
  | .fieldAddr s x f => match fieldA P s f with
    | some f => match sizeA P f.type, rd x with
      | some s, some x => if s ≠ 0 then some (.fieldAddr f.offset x) else none
      | _, _ => none
    | none => none
  | .field t x f => match fieldA P t f with
    | some f => match infoA P f.type, sizeA P f.type, rd x with
      | some g, some s, some x => if s ≠ 0 then some (.field g f.offset s x) else none
      | _, _, _ => none
    | none => none
  | .indexAddr t x i => match P.underlying t with
    | some (.slice e) => match sizeA P e, rd x, rd i with
      | some s, some x, some i => if s ≠ 0 then some (.indexAddr s x i) else none
      | _, _, _ => none
    | some (.array n e) => match sizeA P e, rd x, rd i with
      | some s, some x, some i => if s ≠ 0 then some (.indexAddrA n s x i) else none
      | _, _, _ => none
    | _ => none
  | .index t x i => match P.underlying t with
    | some (.array n e) => match infoA P e, sizeA P e, rd x, rd i with
      | some g, some s, some x, some i => if s ≠ 0 then some (.indexA g n s x i) else none
      | _, _, _, _ => none
    | some .string => match rd x, rd i with
      | some x, some i => some (.indexS x i)
      | _, _ => none
    | _ => none
  | .extract x i => (rd x).map (.extract · i)
  | .makeFunc f a b => match optM rd a.toList, optM rd b.toList with
    | some a, some b => some (.mkfn f a b)
    | _, _ => none
  | .call c => match c.callee with
    | .builtin b => compBuiltin P rd k app b c.args.toList c.argTypes.toList
    | .value (.func f) => if innerCall P c.argTypes.toList type then (match rd (.func f), optM rd c.args.toList with
        | some f, some l => some (.callv f l)
        | _, _ => none) else (match optM rd c.args.toList, cellKinds P 5 type with
      | some l, some ks => some (.call f l (numbered k ks) al)
      | _, _ => none)
    | .value f => match rd f, optM rd c.args.toList with
      | some f, some l => some (if al then .cally f l else .callv f l)
      | _, _ => none
    | _ => none
  | .makeInterface .. | .panic _ => some .stuck
  | _ => none

/-- 0: asks nothing of memory, 1: makes, 2: reads, 3: writes -/
def xkind : XOp → Nat
  | .alloc .. | .box .. | .mkarr .. | .lit .. | .makeSlice .. => 1
  | .load .. | .loadV .. | .call .. => 2
  | .append _ _ _ m _ _ => if m = 2 then 2 else 3
  | .store .. | .copy .. | .callv .. | .cally .. => 3
  | _ => 0

/-- the last operation before i that writes slot t -/
def lastW (ops : List Oper) (t : Tmp) : Nat → Option Nat
  | 0 => none
  | i + 1 => if (ops[i]?.bind (·.dst)) = some t then some i else lastW ops t i
def rdOp (vs : List Nat) (ops : List Oper) (i : Nat) : Operand → Option Opd
  | .tmp t => match lastW ops t i with
    | some j => some (.l j)
    | none => (vs.idxOf? t).map .v
  | .const v => (ofV v).map .c
  | .func f => some (.c (.fn (.func f) [] []))
  | .global _ => none
def readsOf (o : Oper) : List Tmp := o.op.operands.toList.filterMap fun (x : Operand) => match x with | .tmp t => some t | _ => none
/-- only what operation o reads -/
def rdIn (o : Oper) (rd : Operand → Option Opd) (x : Operand) : Option Opd := match x with
  | .tmp t => if (readsOf o).contains t then rd x else none
  | x => rd x
/-- has operation t's slot been written by a list written out in the same statement? -/
def litAt (ops : List Oper) (i : Nat) : Option Operand → Bool
  | some (Operand.tmp t) => match lastW ops t i with
    | some j => match (ops[j]?).map (·.op) with
      | some (Op.buildSlice ..) => true
      | _ => false
    | none => false
  | _ => false
/-- the array made in the same statement that is appended to -/
def newK (xs : List XOper) (dr : Bool) : Nat → Nat → Option Nat
  | 0, _ => none
  | n + 1, j => match (xs[j]?).map (·.op) with
    | some (XOp.mkarr k ..) => some k
    | some (XOp.makeSlice k ..) => some k
    | some (XOp.append k _ _ 2 _ _) => some k
    | some (XOp.call _ _ [(k, s)] _) => if dr ∧ s ≠ 0 then some k else none
    | some (XOp.mv (.l j')) => if dr then newK xs dr n j' else none
    | _ => none
def newAt (ops : List Oper) (xs : List XOper) (dr : Bool) (i : Nat) : Option Operand → Option Nat
  | some (Operand.tmp t) => match lastW ops t i with
    | some j => newK xs dr 4 j
    | none => none
  | _ => none
/-- is it read by calls and by lists written out alone? -/
def readOnly (vs : List Nat) (ops : List Oper) (i : Nat) : Option Tmp → Bool
  | some t => !vs.contains t && (ops.drop (i + 1)).all fun o => !(readsOf o).contains t || (match o.op with
    | .call c => (match c.callee with
      | .value (.func _) => true
      | _ => false)
    | .buildSlice .. | .build .. => true
    | _ => false)
  | none => false
/-- what an operation waits for, as a number's bits; acc: the same of those before it -/
def waitsFor (acc : List Nat) (o : Oper) : Nat :=
  o.after.toList.foldr (fun e m => if Region.binds .any e && Nat.blt e.on acc.length then m ||| (2 ^ e.on ||| acc.getD e.on 0) else m) 0
/-- of each operation, what it waits for -/
def waitL (acc : List Nat) : List Oper → List Nat
  | [] => acc
  | o :: rest => waitL (acc ++ [waitsFor acc o]) rest
def unord (ws : List Nat) (i j : Nat) : Bool := if j < i then !((ws.getD i 0).testBit j) else if i < j then !((ws.getD j 0).testBit i) else false
/-- is there an append that is not ordered against operation i? -/
def appLoose (os : List Op) (ws : List Nat) (i : Nat) : Bool := os.zipIdx.any fun x => unord ws i x.2 && (match x.1 with
  | .call c => (match c.callee with
    | .builtin .append => true
    | _ => false)
  | _ => false)
/-- is operation i ordered against all but moves? -/
def tight (os : List Op) (ws : List Nat) (i : Nat) : Bool := os.zipIdx.all fun x => !unord ws i x.2 || (match x.1 with
  | .move _ | .assign _ => true
  | _ => false)
/-- how 'append' goes; xs: the operations before it -/
def appOf (vs : List Nat) (ops : List Oper) (xs : List XOper) (dr : Bool) (i : Nat) (o : Oper) : Nat × Option Nat := match o.op with
  | .call c => match c.callee with
    | .builtin .append => match newAt ops xs dr i c.args[0]? with
      | some k => if litAt ops i c.args[1]? && (!dr || tight (ops.map fun o => o.op) (waitL [] ops) i) then (1, none) else (2, some k)
      | none => if litAt ops i c.args[1]? then (1, none) else (0, none)
    | _ => (0, none)
  | .buildSlice .. => if readOnly vs ops i o.dst then (3, none) else (0, none)
  | .load _ (.tmp t) => if dr && (lastW ops t i).isNone && appLoose (ops.map fun o => o.op) (waitL [] ops) i then (5, none) else (0, none)
  | _ => (0, none)
def dstOk (N : Nat) (o : Oper) : Bool := match o.dst with
  | some t => Nat.blt t N
  | none => true
def compOps (P : Program) (vs : List Nat) (N : Nat) (ops : List Oper) (al : Bool) : List XOper → Nat → List Oper → Option (List XOper × Nat)
  | acc, k, [] => some (acc, k)
  | acc, k, o :: rest => match compOp P (rdIn o (rdOp vs ops acc.length)) k (appOf vs ops acc (!al) acc.length o) al o.type o.op with
    | none => none
    | some x => match (match o.guard with
        | none => some none
        | some (j, b) => match (ops[j]?).bind (·.dst) with
          | some t => (rdOp vs ops acc.length (.tmp t)).map fun d => some (d, b)
          | none => none) with
      | none => none
      | some g => if dstOk N o then compOps P vs N ops al (acc ++ [{ op := x, var := o.dst.bind (vs.idxOf? ·), guard := g, hide := [] }]) (k + sitesOf x) rest else none
/-- a call whose arguments are constants: it asks nothing of memory -/
def constP (p : PV) : Bool := (ecells p).all fun c => pureC c || (match c with | .nils => true | _ => false)
def constCall : XOp → Bool
  | .call _ args _ _ => args.all fun a => match a with
    | .c p => constP p
    | _ => false
  | _ => false
def isApp : XOp → Bool
  | .append .. => true
  | _ => false
def isLoadV : XOp → Bool
  | .loadV .. => true
  | _ => false
def quiet (op : XOp) : Bool := constCall op || isLoadV op
def okPair (x y : XOper) : Bool := xkind x.op == 0 || xkind y.op == 0 || (xkind x.op ≤ 2 && xkind y.op ≤ 2) || (isApp x.op && quiet y.op) || (quiet x.op && isApp y.op)
/-- the objects of the operations that are not ordered against operation i -/
def hideOf (ws : List Nat) (xs : List XOper) (i : Nat) : List Nat :=
  ((xs.zipIdx.filter fun y => unord ws i y.2).map fun y => siteNos y.1.op).flatten
def isCallv : XOp → Bool
  | .callv .. => true
  | _ => false
def isCally : XOp → Bool
  | .cally .. => true
  | _ => false
def drawnOk (ops : List Oper) (ws : List Nat) (xs : List XOper) : Bool :=
  (!xs.any fun x => isCally x.op) && (!xs.any (fun x => isCallv x.op) || !xs.any (fun x => isLoadV x.op)) && (List.range ops.length).all fun j => (List.range j).all fun i =>
    !unord ws j i || ((match ops[i]?, ops[j]? with
      | some a, some b => a.apart ops.toArray b && b.apart ops.toArray a
      | _, _ => false) && (match xs[i]?, xs[j]? with
      | some a, some b => okPair a b
      | _, _ => false))
/-- edges lead back -/
def edgesOk : Nat → List Oper → Bool
  | _, [] => true
  | i, o :: r => o.after.all (fun e => !Region.binds .any e || Nat.blt e.on i) && edgesOk (i + 1) r
def compReg (P : Program) (vs : List Nat) (N : Nat) (k : Nat) (ops : List Oper) (draw : Bool) : Option (List XOper × Nat) :=
  match compOps P vs N ops (!draw) [] k ops with
  | none => none
  | some (xs, k') =>
    if draw then
      let ws := waitL [] ops
      if drawnOk ops ws xs && edgesOk 0 ops then some (xs.zipIdx.map (fun y => { y.1 with hide := hideOf ws xs y.2 }), k') else none
    else some (xs, k')
/-- is there no loop over a function in it? -/
def noR : Code → Bool
  | .seq a b | .cond _ a b => noR a && noR b
  | .block _ b | .loop b | .scope b => noR b
  | .rangeFunc .. => false
  | _ => true
def compCode (P : Program) (vs : List Nat) (N : Nat) : Nat → Code → Option (XCode × Nat)
  | k, .skip => some (.skip, k)
  | k, .region _ ops d => match compReg P vs N k ops.toList d with
    | some (xs, k') => some (.reg xs, k')
    | none => none
  | k, .seq a b => match compCode P vs N k a with
    | some (x, k1) => match compCode P vs N k1 b with
      | some (y, k2) => some (.seq x y, k2)
      | none => none
    | none => none
  | k, .cond c a b => match compCode P vs N k a with
    | some (x, k1) => match compCode P vs N k1 b with
      | some (y, k2) => match rdOp vs [] 0 c with
        | some c => some (.cond c x y, k2)
        | none => none
      | none => none
    | none => none
  | k, .block id b => match compCode P vs N k b with
    | some (x, k1) => some (.block id x, k1)
    | none => none
  | k, .loop b => match compCode P vs N k b with
    | some (x, k1) => some (.loop x, k1)
    | none => none
  | k, .exit id => some (.exit id, k)
  | k, .ret => some (.ret, k)
  | k, .scope b => compCode P vs N k b
  | k, .label _ => some (.skip, k)
  | k, .rangeFunc g ps a b => match compCode P vs N k a with
    | some (x, k1) => match compCode P vs N k1 b with
      | some (y, k2) => match rdOp vs [] 0 g with
        | some g => if noR a && noR b && ps.all (Nat.blt · N) then some (.rfor g (ps.toList.map fun t => vs.idxOf? t) x y, k2) else none
        | none => none
      | none => none
    | none => none
  | _, _ => none

/-! the slots that are read in another region than they are written in -/
def extReads (ops : List Oper) : List Tmp :=
  ((ops.zipIdx.map fun x => (readsOf x.1 ++ (match x.1.guard with | some (j, _) => ((ops[j]?).bind (·.dst)).toList | none => [])).filter fun t => (lastW ops t x.2).isNone).flatten)
def extCode : Code → List Tmp
  | .region _ ops _ => extReads ops.toList
  | .seq a b => extCode a ++ extCode b
  | .cond (.tmp t) a b => t :: (extCode a ++ extCode b)
  | .cond _ a b => extCode a ++ extCode b
  | .block _ b | .loop b | .scope b => extCode b
  | .rangeFunc (.tmp t) _ a b => t :: (extCode a ++ extCode b)
  | .rangeFunc _ _ a b => extCode a ++ extCode b
  | _ => []
structure XFn where
  ntmps : Nat
  /-- slots of the variables -/
  vars : List Nat
  sites : Nat
  /-- results: a variable, or memory at the address in a variable -/
  results : List (Nat × Option (Bool × Nat))
  body : XCode
  deriving Inhabited
def insNat (t : Nat) : List Nat → List Nat
  | [] => [t]
  | a :: l => if t < a then t :: a :: l else if t = a then a :: l else a :: insNat t l
def varsOf (f : Func) (c : Code) : List Nat :=
  (List.range (f.params.size + f.nfree) ++ extCode c ++ f.results.toList.map fun (r : ResultVar) => match r with | .tmp t => t | .cell a _ => a).foldl (fun l t => insNat t l) []
def compFn (P : Program) (f : FuncId) : Option XFn :=
  match P.funcs[f]? with
  | none => none
  | some fn => match fn.body with
    | none => none
    | some c =>
      let vs := varsOf fn c
      match compCode P vs fn.ntmps 0 c, optM (fun (r : ResultVar) => match r with
          | .tmp t => (vs.idxOf? t).map fun v => (v, none)
          | .cell a t => match vs.idxOf? a, infoA P t, sizeA P t with
            | some v, some g, some s => some (v, some (g, s))
            | _, _, _ => none) fn.results.toList with
      | some (x, k), some rs => if !(fn.name == "runtime.NumGoroutine") ∧ nodupN vs = true ∧ vs.all (Nat.blt · fn.ntmps) = true ∧ fn.params.size + fn.nfree ≤ fn.ntmps then some ⟨fn.ntmps, vs, k, rs, x⟩ else none
      | _, _ => none
/-- .. its objects numbered from off on -/
def compFnAt (P : Program) (f : FuncId) (off : Nat) : Option XFn :=
  match P.funcs[f]? with
  | none => none
  | some fn => match fn.body with
    | none => none
    | some c =>
      let vs := varsOf fn c
      match compCode P vs fn.ntmps off c, optM (fun (r : ResultVar) => match r with
          | .tmp t => (vs.idxOf? t).map fun v => (v, none)
          | .cell a t => match vs.idxOf? a, infoA P t, sizeA P t with
            | some v, some g, some s => some (v, some (g, s))
            | _, _, _ => none) fn.results.toList with
      | some (x, k), some rs => if !(fn.name == "runtime.NumGoroutine") ∧ nodupN vs = true ∧ vs.all (Nat.blt · fn.ntmps) = true ∧ fn.params.size + fn.nfree ≤ fn.ntmps then some ⟨fn.ntmps, vs, k, rs, x⟩ else none
      | _, _ => none
end Go.Proofs.Ytalgbgeocpbadaa.Am
