/-
  A plain machine: values without addresses, a small table of the call's own objects; what its operations do.
-/
import Derived.WalkKit
import Derived.WalkSpells
import Derived.WalkLawsBesides
import Derived.Lib.Hide
import Derived.Handy
import Derived.RangeFuncNested
import Derived.RangeFuncLeaves
import Derived.RangeFuncCalls
import Derived.OrdersIn
import Derived.LoopNIn
import Derived.CallsIn
import Derived.Scope
namespace Go.Proofs.Ytalgbgeocpbadaa.Am
set_option linter.unusedSimpArgs false
set_option linter.unusedVariables false
set_option linter.unusedSectionVars false

/-- plain values -/
inductive PV where
  | undef
  | bool (b : Bool)
  | int (k : IntKind) (n : Int)
  | str (s : ByteArray)
  /-- a constant without an address: nil of some kind -/
  | lit (v : Value)
  | nils
  /-- a slice that nobody writes to -/
  | slc (es : List PV)
  /-- a slice that lies in an element of an array, and nowhere else -/
  | uslc (es : List PV)
  /-- a slice of the array with number k; s: the elements' size -/
  | own (k gen glen s off len : Nat)
  /-- a slice of the array that lies in the cell (i, j) of the array k -/
  | nown (k gen ver i j off len : Nat)
  /-- the address of a cell of a variable -/
  | ptr (k gen off : Nat)
  /-- the address of cell j of element i of an array; s: the elements' size -/
  | eptr (k gen glen s i j : Nat)
  /-- .. of cell l of element m of the array that lies in cell (i, j) of array k -/
  | nptr (k gen ver s i j m l : Nat)
  /-- an address in memory that nobody writes to: the cells that lie there -/
  | fptr (cs : List PV)
  | agg (cs : List PV)
  | tup (vs : List PV)
  | fn (f : Fn) (first captured : List PV)
  deriving Inhabited

inductive Ob where
  | dead
  | var (cs : List PV)
  | arr (sz ver : Nat) (fr : Bool) (es : List PV)
  deriving Inhabited
abbrev Row := Nat × Ob
abbrev Heap := List Row

def ecells : PV → List PV
  | .agg cs => cs
  | c => [c]

/-- operands: the result of an operation of the same region, a variable, a constant, a function -/
inductive Opd where
  | l (i : Nat)
  | v (i : Nat)
  | c (p : PV)
  deriving Inhabited

inductive XOp where
  | mv (x : Opd)
  | pick (c a b : Opd)
  | alloc (k : Nat) (zs : List PV)
  | box (k : Nat) (x : Opd)
  | build (zs : List PV) (parts : List (Nat × Nat × Opd))
  | mkarr (k sz : Nat) (zs : List PV) (parts : List (Nat × Opd))
  /-- a list written out that nobody writes to -/
  | lit (sz : Nat) (zs : List PV) (parts : List (Nat × Opd))
  | load (agg : Bool) (sz : Nat) (a : Opd)
  /-- .. from a variable -/
  | loadV (agg : Bool) (sz : Nat) (a : Opd)
  | store (sz : Nat) (a v : Opd)
  | nilchk (x : Opd)
  /-- bt: the operands are of a type of truth values -/
  | bin (op : BinOp) (bt : Bool) (x y : Opd)
  | un (op : UnOp) (x : Opd)
  | conv (k : IntKind) (x : Opd)
  | convId (x : Opd)
  | convStr (x : Opd)
  | makeSlice (k sz bytes : Nat) (z : PV) (len cap : Opd)
  | slice (st : Bool) (sz : Nat) (x : Opd) (lo hi mx : Option Opd)
  | fieldAddr (off : Nat) (x : Opd)
  | field (agg : Bool) (off sz : Nat) (x : Opd)
  | indexAddr (sz : Nat) (x i : Opd)
  | indexAddrA (n sz : Nat) (x i : Opd)
  | indexA (agg : Bool) (n sz : Nat) (x i : Opd)
  | indexS (x i : Opd)
  | extract (x : Opd) (i : Nat)
  /-- ks: the arrays of the result and their elements' sizes; al: parts of the result may be parts of what is passed -/
  | call (f : FuncId) (args : List Opd) (ks : List (Nat × Nat)) (al : Bool)
  | callv (f : Opd) (args : List Opd)
  /-- .. in a region whose order is not drawn: it may be the body of a loop over a function -/
  | cally (f : Opd) (args : List Opd)
  /-- what has no meaning: a panic -/
  | stuck
  | len (st : Bool) (x : Opd)
  | lenK (n : Nat)
  | minmax (mx : Bool) (xs : List Opd)
  /-- mode 1: x is a list written out in the same statement; mode 2: s is one, and nothing that is read changes -/
  | append (k sz bytes mode : Nat) (s x : Opd)
  | copy (sz : Nat) (d s : Opd)
  | mkfn (f : Fn) (first captured : List Opd)
  deriving Inhabited

structure XOper where
  op : XOp
  /-- the variable that is written -/
  var : Option Nat
  guard : Option (Opd × Bool)
  hide : List Nat
  deriving Inhabited

inductive XCode where
  | skip
  | reg (ops : List XOper)
  | seq (a b : XCode)
  | cond (c : Opd) (a b : XCode)
  | block (id : Nat) (b : XCode)
  | loop (b : XCode)
  /-- .. whose state is settled at each round's start: the variables that live on, where objects are numbered from -/
  | loopS (live : List Nat) (c0 : Nat) (b : XCode)
  /-- arrays that nobody writes to from here on (false: those in their elements alone) -/
  | frz (l : List (Nat × Bool)) (b : XCode)
  /-- a slice that is nil, in a variable or in a cell of what it leads to, is taken as an array of no elements: its number, its elements' size -/
  | mat (v : Nat) (c : Option Nat) (k sz : Nat) (b : XCode)
  /-- a loop over a function: its variables, their assignment, the body -/
  | rfor (g : Opd) (ps : List (Option Nat)) (a b : XCode)
  | exit (id : Nat)
  | ret
  deriving Inhabited

/-! ### what the operations do -/
def binP (op : BinOp) (bt : Bool) : PV → PV → Option PV
  | .int k a, .int k' b => match op with
    | .shl => if b < 0 then none else some (.int k (k.wrap (a * 2 ^ (min b.toNat k.bits))))
    | .shr => if b < 0 then none else some (.int k (a.fdiv (2 ^ (min b.toNat k.bits))))
    | _ => if k = k' then match op with
      | .add => some (.int k (k.wrap (a + b)))
      | .sub => some (.int k (k.wrap (a - b)))
      | .mul => some (.int k (k.wrap (a * b)))
      | .quo => if b = 0 then none else some (.int k (k.wrap (a.tdiv b)))
      | .rem => if b = 0 then none else some (.int k (a.tmod b))
      | .and => some (.int k (k.wrap ((BitVec.ofInt k.bits a &&& BitVec.ofInt k.bits b).toNat)))
      | .or => some (.int k (k.wrap ((BitVec.ofInt k.bits a ||| BitVec.ofInt k.bits b).toNat)))
      | .xor => some (.int k (k.wrap ((BitVec.ofInt k.bits a ^^^ BitVec.ofInt k.bits b).toNat)))
      | .andNot => some (.int k (k.wrap ((BitVec.ofInt k.bits a &&& ~~~(BitVec.ofInt k.bits b)).toNat)))
      | .eql => some (.bool (a == b))
      | .neq => some (.bool (a != b))
      | .lss => some (.bool (a < b))
      | .leq => some (.bool (a ≤ b))
      | .gtr => some (.bool (a > b))
      | .geq => some (.bool (a ≥ b))
      | _ => none else none
  | .bool a, .bool b => if bt = false then none else match op with
    | .eql => some (.bool (a == b))
    | .neq => some (.bool (a != b))
    | _ => none
  | .str a, .str b => match op with
    | .eql => some (.bool (a.toList == b.toList))
    | .neq => some (.bool !(a.toList == b.toList))
    | .add => if ((a.size + b.size : Nat) : Int) > IntKind.i64.max then none else some (.str (a ++ b))
    | _ => none
  | _, _ => none
def unP (op : UnOp) : PV → Option PV
  | .bool b => match op with | .not => some (.bool !b) | _ => none
  | .int k n => match op with | .neg => some (.int k (k.wrap (0 - n))) | _ => none
  | _ => none

/-- a value of one cell -/
def one : PV → Bool
  | .agg _ | .tup _ | .uslc _ | .undef | .fn .. => false
  | _ => true
/-- what does not lead into the call's own memory, nor is a slice of its own -/
def pureC : PV → Bool
  | .bool _ | .int _ _ | .str _ | .lit _ | .slc _ => true
  | _ => false
def isU : PV → Bool
  | .uslc _ => true
  | _ => false
/-- frozen: the cell of an array's element -/
def frzC : PV → PV
  | .uslc es => .slc es
  | c => c
def frzE : PV → PV
  | .agg cs => .agg (cs.map frzC)
  | c => frzC c
/-- an element without references -/
def noRefE (e : PV) : Bool := (ecells e).all fun c => pureC c || isU c

def takeE (agg : Bool) (sz : Nat) (cs : List PV) (off : Nat) : Option PV :=
  if agg then (if off + sz ≤ cs.length then some (.agg ((cs.drop off).take sz)) else none) else cs[off]?
def setAll (cs : List PV) (off : Nat) : List PV → List PV
  | [] => cs
  | v :: vs => setAll (cs.set off v) (off + 1) vs
def setE (e : PV) (j : Nat) (vs : List PV) : PV :=
  match e with
  | .agg cs => .agg (setAll cs j vs)
  | e => vs.headD e
def ldC (k g ver i j : Nat) : PV → PV
  | .uslc ns => .nown k g ver i j 0 ns.length
  | c => c
def ldCs (k g ver i j : Nat) : List PV → List PV
  | [] => []
  | c :: cs => ldC k g ver i j c :: ldCs k g ver i (j + 1) cs
abbrev Eff := PV × List (Nat × Row)
abbrev Look := Nat → Row

def loadP (lk : Look) (agg : Bool) (sz : Nat) : PV → Option PV
  | .ptr k g o => match lk k with
    | (g', .var cs) => if g' = g then takeE agg sz cs o else none
    | _ => none
  | .eptr k g gl s i j => match lk k with
    | (g', .arr s' ver _ es) => if g' = g ∧ es.length = gl ∧ s' = s then (match es[i]? with
      | some e => match takeE agg sz (ecells e) j with
        | some (.agg cs) => if agg then some (.agg (ldCs k g ver i j cs)) else none
        | some c => some (ldC k g ver i j c)
        | none => none
      | none => none) else none
    | _ => none
  | .nptr k g ver s i j m l => match lk k with
    | (g', .arr _ ver' _ es) => if g' = g ∧ ver' = ver then (match es[i]? with
      | some e => match (ecells e)[j]? with
        | some (.uslc ns) => match ns[m]? with
          | some x => if (ecells x).length = s then takeE agg sz (ecells x) l else none
          | none => none
        | _ => none
      | none => none) else none
    | _ => none
  | .fptr cs => takeE agg sz cs 0
  | _ => none

/-- a cell that is put into an element of an array: a slice of the call's own moves there -/
def embC (lk : Look) : PV → Option (PV × List Nat)
  | .own k g gl s o l => match lk k with
    | (g', .arr s' _ fr es) => if g' = g ∧ es.length = gl ∧ s' = s ∧ o = 0 ∧ l = gl ∧ es.all noRefE = true then (if fr then some (.slc (es.map frzE), []) else some (.uslc (es.map frzE), [k])) else none
    | _ => none
  | .nown .. | .nptr .. | .undef | .uslc _ | .agg _ | .tup _ | .fn .. => none
  | .nils => some (.slc [], [])
  | c => some (c, [])
def embCs (lk : Look) : List PV → Option (List PV × List Nat)
  | [] => some ([], [])
  | c :: cs => match embC lk c, embCs lk cs with
    | some (d, ks), some (ds, ls) => if ks.all (fun k => !ls.contains k) then some (d :: ds, ls ++ ks) else none
    | _, _ => none
def reE : PV → List PV → PV
  | .agg _, ds => .agg ds
  | e, ds => ds.headD e
def embE (lk : Look) (e : PV) : Option (PV × List Nat) := match embCs lk (ecells e) with
  | some (ds, ks) => some (reE e ds, ks)
  | none => none
def embEs (lk : Look) : List PV → Option (List PV × List Nat)
  | [] => some ([], [])
  | c :: cs => match embE lk c, embEs lk cs with
    | some (d, ks), some (ds, ls) => if ks.all (fun k => !ls.contains k) then some (d :: ds, ls ++ ks) else none
    | _, _ => none
def kill (lk : Look) (ks : List Nat) : List (Nat × Row) := ks.map fun k => (k, ((lk k).1, .dead))

def storeP (lk : Look) (sz : Nat) (a v : PV) : Option (List (Nat × Row)) :=
  if (ecells v).length = sz then
    match a with
    | .ptr k g o => match lk k with
      | (g', .var cs) => if g' = g ∧ o + sz ≤ cs.length ∧ (ecells v).all one = true then some [(k, (g, .var (setAll cs o (ecells v))))] else none
      | _ => none
    | .eptr k g gl s i j => match lk k with
      | (g', .arr sz' ver fr es) => if g' = g ∧ es.length = gl ∧ sz' = s ∧ fr = false then (match es[i]? with
        | some e => if j + sz ≤ (ecells e).length then (match embCs lk (ecells v) with
          | some (ds, ks) => if ks.contains k then none else
            some (kill lk ks ++ [(k, (g, .arr sz' (if (((ecells e).drop j).take sz).any isU || ds.any isU then ver + 1 else ver) fr (es.set i (setE e j ds))))])
          | none => none) else none
        | none => none) else none
      | _ => none
    | .nptr k g ver s i j m l => match lk k with
      | (g', .arr sz' ver' fr es) => if g' = g ∧ ver' = ver ∧ fr = false then (match es[i]? with
        | some e => match (ecells e)[j]? with
          | some (.uslc ns) => match ns[m]? with
            | some x => if (ecells x).length = s ∧ l + sz ≤ s ∧ (ecells v).all pureC = true then
                some [(k, (g, .arr sz' ver fr (es.set i (setE e j [.uslc (ns.set m (setE x l (ecells v)))]))))] else none
            | none => none
          | _ => none
        | none => none) else none
      | _ => none
    | _ => none
  else none

def asInt : PV → Option Int
  | .int _ n => some n
  | _ => none
def sliceB (n : Nat) (lo hi mx : Option PV) : Option (Nat × Nat) :=
  match (match hi with | some v => asInt v | none => some (n : Int)), (match lo with | some v => asInt v | none => some 0) with
  | some h, some l => if 0 ≤ l ∧ l ≤ h ∧ h ≤ n then (match mx with
    | none => some (l.toNat, h.toNat)
    | some v => if hi.isSome ∧ asInt v = some h then some (l.toNat, h.toNat) else none) else none
  | _, _ => none
/-- elements of sz cells each -/
def szOk (sz : Nat) (es : List PV) : Bool := es.all fun e => (ecells e).length == sz
def isStr : PV → Bool
  | .str _ => true
  | _ => false
def sliceP (st : Bool) (sz : Nat) (x : PV) (lo hi mx : Option PV) : Option PV :=
  if isStr x != st then none else match x with
  | .slc es => match sliceB es.length lo hi mx with
    | some (l, h) => if l = 0 ∨ szOk sz es = true then some (.slc ((es.drop l).take (h - l))) else none
    | none => none
  | .own k g gl s o n => if mx.isSome then none else match sliceB n lo hi none with
    | some (l, h) => if sz = s then some (.own k g gl s (o + l) (h - l)) else none
    | none => none
  | .nown k g ver i j o n => if mx.isSome then none else match sliceB n lo hi none with
    | some (l, h) => if l = 0 then some (.nown k g ver i j o h) else none
    | none => none
  | .nils => match sliceB 0 lo hi mx with
    | some _ => some .nils
    | none => none
  | .str s => if mx.isSome then none else match sliceB s.size lo hi none with
    | some (l, h) => some (.str (s.extract l h))
    | none => none
  | _ => none
def lenP (st : Bool) (x : PV) : Option Nat := if isStr x != st then none else match x with
  | .slc es => some es.length
  | .own _ _ _ _ _ l => some l
  | .nown _ _ _ _ _ _ l => some l
  | .nils => some 0
  | .str s => some s.size
  | _ => none
def idxA (sz : Nat) (x : PV) (i : Int) : Option PV :=
  if 0 ≤ i then
    match x with
    | .slc es => match es[i.toNat]? with
      | some e => if (ecells e).length = sz ∧ sz ≠ 0 then some (.fptr (ecells e)) else none
      | none => none
    | .own k g gl s o l => if i < l ∧ sz = s then some (.eptr k g gl s (o + i.toNat) 0) else none
    | .nown k g ver ei ej o l => if i < l then some (.nptr k g ver sz ei ej (o + i.toNat) 0) else none
    | _ => none
  else none
def addrOff (off : Nat) : PV → Option PV
  | .ptr k g o => some (.ptr k g (o + off))
  | .eptr k g gl s i j => some (.eptr k g gl s i (j + off))
  | .nptr k g ver s i j m l => some (.nptr k g ver s i j m (l + off))
  | .fptr cs => if off < cs.length then some (.fptr (cs.drop off)) else none
  | _ => none
def buildP (cs : List PV) : List (Nat × Nat × PV) → Option (List PV)
  | [] => some cs
  | (off, sz, v) :: r => if (ecells v).length = sz ∧ off + sz ≤ cs.length ∧ (ecells v).all one = true then buildP (setAll cs off (ecells v)) r else none
/-- as memory that nobody writes to has it -/
def purC : PV → PV
  | .nils => .slc []
  | c => c
def purE : PV → PV
  | .agg cs => .agg (cs.map purC)
  | c => purC c
def mkarrP (sz : Nat) (es : List PV) : List (Nat × PV) → Option (List PV)
  | [] => some es
  | (i, v) :: r => if (ecells v).length = sz ∧ i < es.length ∧ (ecells v).all one = true then mkarrP sz (es.set i v) r else none
/-- the elements that are appended or copied, and what becomes of where they lay -/
def srcP (lk : Look) (mode : Nat) : PV → Option (List PV × List (Nat × Row))
  | .slc es => some (es, [])
  | .nils => some ([], [])
  | .own k g gl s o l => match lk k with
    | (g', .arr sz ver fr es) => if g' = g ∧ es.length = gl ∧ sz = s ∧ o + l ≤ gl then
        (if mode = 1 then (match embEs lk ((es.drop o).take l) with
          | some (ds, ks) => if ks.contains k then none else some (ds, kill lk (ks ++ [k]))
          | none => none)
        else if es.all noRefE = true ∧ (mode = 2 → es.all (fun e => (ecells e).all pureC) = true) then some (((es.drop o).take l).map frzE, if es.all (fun e => (ecells e).all pureC) then [] else [(k, (g, .arr sz (ver + 1) fr (es.map frzE)))]) else none) else none
    | _ => none
  | .nown k g ver i j o l => match lk k with
    | (g', .arr _ ver' _ es) => if g' = g ∧ ver' = ver then (match es[i]? with
      | some e => match (ecells e)[j]? with
        | some (.uslc ns) => if o = 0 ∧ l ≤ ns.length then some (ns.take l, []) else none
        | _ => none
      | none => none) else none
    | _ => none
  | _ => none
def appP (lk : Look) (k sz bytes : Nat) (s : PV) (news : List PV) : Option Eff :=
  match s with
  | .nils => if news.length * bytes ≤ 140737488355328 then some (.own k ((lk k).1 + 1) news.length sz 0 news.length, [(k, ((lk k).1 + 1, .arr sz 0 false news))]) else none
  | .own k1 g gl s o l => match lk k1 with
    | (g', .arr sz1 ver fr es) => if g' = g ∧ es.length = gl ∧ sz1 = sz ∧ s = sz ∧ fr = false ∧ o = 0 ∧ l ≤ gl ∧ (l + news.length) * bytes ≤ 140737488355328 then
        (if l = gl then some (.own k1 g (gl + news.length) sz 0 (gl + news.length), [(k1, (g, .arr sz ver fr (es ++ news)))])
         else some (.own k1 g (es.take l ++ news ++ es.drop (l + news.length)).length sz 0 (l + news.length), [(k1, (g, .arr sz (ver + 1) fr (es.take l ++ news ++ es.drop (l + news.length))))])) else none
    | _ => none
  | _ => none
def appDst (k : Nat) : PV → Nat
  | .own k1 _ _ _ _ _ => k1
  | _ => k
def isOwn : PV → Bool
  | .own .. => true
  | _ => false
def appOk (k mode sz : Nat) (s : PV) (news : List PV) (ws : List (Nat × Row)) : Bool :=
  !(ws.map (·.1)).contains (appDst k s) && (mode != 2 || (isOwn s && appDst k s == k)) && szOk sz news
def foldMM (mx : Bool) : Int → List PV → Option Int
  | m, [] => some m
  | m, .int _ y :: r => foldMM mx (if mx then (if y > m then y else m) else (if y < m then y else m)) r
  | _, _ => none

/-- copy: n elements of news over those of s -/
def copyP (lk : Look) (sz : Nat) (d : PV) (news : List PV) (ws : List (Nat × Row)) : Option Eff :=
  if szOk sz news then match d with
    | .nils => some (.int .i64 0, ws)
    | .own k g gl s o l => match lk k with
      | (g', .arr sz1 ver fr es) => if g' = g ∧ es.length = gl ∧ sz1 = sz ∧ s = sz ∧ fr = false ∧ o + l ≤ gl ∧ (ws.map (·.1)).contains k = false then
          (if (news.take l).length = 0 then some (.int .i64 0, ws) else some (.int .i64 ((news.take l).length : Nat), ws ++ [(k, (g, .arr sz (ver + 1) fr (es.take o ++ news.take l ++ es.drop (o + (news.take l).length))))])) else none
      | _ => none
    | _ => none
  else none
def aop (ev : Opd → PV) (lk : Look) : XOp → Option Eff
  | .mv x => some (ev x, [])
  | .pick c a b => match ev c with
    | .bool t => some (if t then ev a else ev b, [])
    | _ => none
  | .alloc k zs => if zs.all one then some (.ptr k ((lk k).1 + 1) 0, [(k, ((lk k).1 + 1, .var zs))]) else none
  | .box k x => if (ecells (ev x)).all one then some (.ptr k ((lk k).1 + 1) 0, [(k, ((lk k).1 + 1, .var (ecells (ev x))))]) else none
  | .build zs parts => match buildP zs (parts.map fun x => (x.1, x.2.1, ev x.2.2)) with
    | some cs => some (.agg cs, [])
    | none => none
  | .mkarr k sz es parts => match mkarrP sz es (parts.map fun x => (x.1, ev x.2)) with
    | some es => some (.own k ((lk k).1 + 1) es.length sz 0 es.length, [(k, ((lk k).1 + 1, .arr sz 0 false es))])
    | none => none
  | .lit sz es parts => match mkarrP sz es (parts.map fun x => (x.1, ev x.2)) with
    | some es => if es.all (fun e => (ecells (purE e)).all pureC) then some (.slc (es.map purE), []) else none
    | none => none
  | .load agg sz a => match loadP lk agg sz (ev a) with
    | some v => some (v, [])
    | none => none
  | .loadV agg sz a => match ev a with
    | .ptr k g o => match loadP lk agg sz (.ptr k g o) with
      | some v => some (v, [])
      | none => none
    | _ => none
  | .store sz a v => match storeP lk sz (ev a) (ev v) with
    | some ws => some (.undef, ws)
    | none => none
  | .nilchk x => match ev x with
    | .ptr .. | .eptr .. | .nptr .. | .fptr .. => some (ev x, [])
    | .fn (.func f) a b => some (.fn (.func f) a b, [])
    | _ => none
  | .bin op bt x y => match binP op bt (ev x) (ev y) with
    | some v => some (v, [])
    | none => none
  | .un op x => match unP op (ev x) with
    | some v => some (v, [])
    | none => none
  | .conv k x => match ev x with
    | .int _ n => some (.int k (k.wrap n), [])
    | _ => none
  | .convId x => match ev x with
    | .str s => some (.str s, [])
    | _ => none
  | .makeSlice k sz bytes z len cap => match ev len, ev cap with
    | .int .i64 l, .int .i64 c => if 0 ≤ l ∧ l ≤ c ∧ c * bytes ≤ 140737488355328 ∧ c ≤ 9223372036854775807 then
        some (.own k ((lk k).1 + 1) l.toNat sz 0 l.toNat, [(k, ((lk k).1 + 1, .arr sz 0 false (List.replicate l.toNat z)))]) else none
    | _, _ => none
  | .slice st sz x lo hi mx => match sliceP st sz (ev x) (lo.map ev) (hi.map ev) (mx.map ev) with
    | some v => some (v, [])
    | none => none
  | .fieldAddr off x => match addrOff off (ev x) with
    | some v => some (v, [])
    | none => none
  | .field agg off sz x => match ev x with
    | .agg cs => match takeE agg sz cs off with
      | some v => some (v, [])
      | none => none
    | _ => none
  | .indexAddr sz x i => match ev i with
    | .int _ n => match idxA sz (ev x) n with
      | some v => some (v, [])
      | none => none
    | _ => none
  | .indexAddrA n sz x i => match ev i with
    | .int _ m => if 0 ≤ m ∧ m < n then (match addrOff (m.toNat * sz) (ev x) with
      | some v => some (v, [])
      | none => none) else none
    | _ => none
  | .indexA agg n sz x i => match ev i, ev x with
    | .int _ m, .agg cs => if 0 ≤ m ∧ m < n then (match takeE agg sz cs (m.toNat * sz) with
      | some v => some (v, [])
      | none => none) else none
    | _, _ => none
  | .indexS x i => match ev i, ev x with
    | .int _ m, .str s => if 0 ≤ m then (match s.data.toList[m.toNat]? with
      | some b => some (.int .u8 b.toNat, [])
      | none => none) else none
    | _, _ => none
  | .extract x i => match ev x with
    | .tup vs => match vs[i]? with
      | some v => some (v, [])
      | none => none
    | _ => none
  | .len st x => match lenP st (ev x) with
    | some n => some (.int .i64 n, [])
    | none => none
  | .lenK n => some (.int .i64 n, [])
  | .minmax mx xs => match xs.map ev with
    | .int k n :: r => match foldMM mx n r with
      | some m => some (.int k m, [])
      | none => none
    | _ => none
  | .append k sz bytes mode s x => match srcP lk mode (ev x) with
    | some (news, ws) => if appOk k mode sz (ev s) news ws then (match appP lk k sz bytes (ev s) news with
      | some (v, ws') => some (v, ws ++ ws')
      | none => none) else none
    | none => none
  | .mkfn f a b => if (a.map ev).all one = true ∧ (b.map ev).all one = true then some (.fn f (a.map ev) (b.map ev), []) else none
  | .copy sz d s => match srcP lk 0 (ev s) with
    | some (news, ws) => copyP lk sz (ev d) news ws
    | none => none
  | .convStr _ | .call .. | .callv .. | .cally .. | .stuck => none
/-! ### calls: what is passed is frozen as long as the call lasts; what comes back is the caller's own -/
def fzC (lk : Look) : PV → PV
  | .own k g gl s o l => match lk k with
    | (g', .arr s' _ _ es) => if g' = g ∧ es.length = gl ∧ s' = s ∧ o + l ≤ gl ∧ es.all noRefE = true then .slc (((es.drop o).take l).map frzE) else .undef
    | _ => .undef
  | .nown k g ver i j o l => match lk k with
    | (g', .arr _ ver' _ es) => if g' = g ∧ ver' = ver then (match es[i]? with
      | some e => match (ecells e)[j]? with
        | some (.uslc ns) => if o = 0 ∧ l ≤ ns.length then .slc (ns.take l) else .undef
        | _ => .undef
      | none => .undef) else .undef
    | _ => .undef
  | .nils => .slc []
  | .bool b => .bool b
  | .int k n => .int k n
  | .str t => .str t
  | .lit v => .lit v
  | .slc es => .slc es
  | _ => .undef
def fzV (lk : Look) : PV → PV
  | .agg cs => .agg (cs.map (fzC lk))
  | c => fzC lk c
/-- does a value lead into arrays of the call's own? -/
def hasOwnC (lk : Look) : PV → Bool
  | .own k _ _ _ _ _ => match (lk k).2 with
    | .arr _ _ true _ => false
    | _ => true
  | .nown .. => true
  | _ => false
def hasOwn (lk : Look) (v : PV) : Bool := (ecells v).any (hasOwnC lk)
/-- nothing in it may be shared -/
def noS0 : PV → Bool
  | .slc _ | .uslc _ => false
  | _ => true
def noS1 : PV → Bool
  | .slc _ => false
  | .uslc es => es.all fun e => (ecells e).all noS0
  | _ => true
def noS2 : PV → Bool
  | .slc _ => false
  | .uslc es => es.all fun e => (ecells e).all noS1
  | _ => true
def comps : PV → List PV
  | .tup vs => vs
  | c => [c]
def noS (r : PV) : Bool := (comps r).all fun c => (ecells c).all noS2
/-- a cell of a result; kz: the number of the array that it becomes, and its elements' size -/
def thC (kz : Nat × Nat) (gen : Nat → Nat) : PV → PV
  | .uslc es => .own kz.1 (gen kz.1) es.length kz.2 0 es.length
  | .nils => .nils
  | .bool b => .bool b
  | .int k n => .int k n
  | .str t => .str t
  | .lit v => .lit v
  | .slc es => .slc es
  | _ => .undef
def thCs (ks : Nat → Nat × Nat) (gen : Nat → Nat) : Nat → List PV → List PV
  | _, [] => []
  | p, c :: cs => thC (ks p) gen c :: thCs ks gen (p + 1) cs
def thComp (ks : Nat → Nat × Nat) (gen : Nat → Nat) (p : Nat) : PV → PV
  | .agg cs => .agg (thCs ks gen p cs)
  | c => thC (ks p) gen c
def thComps (ks : Nat → Nat × Nat) (gen : Nat → Nat) : Nat → List PV → List PV
  | _, [] => []
  | p, c :: cs => thComp ks gen p c :: thComps ks gen (p + (ecells c).length) cs
def thV (ks : Nat → Nat × Nat) (gen : Nat → Nat) : PV → PV
  | .tup vs => .tup (thComps ks gen 0 vs)
  | c => thComp ks gen 0 c
/-- all cells of a result -/
def rcells (r : PV) : List PV := (comps r).flatMap ecells
def thWs (ks : Nat → Nat × Nat) (gen : Nat → Nat) : Nat → List PV → List (Nat × Row)
  | _, [] => []
  | p, .uslc es :: cs => ((ks p).1, (gen (ks p).1, .arr (ks p).2 0 false es)) :: thWs ks gen (p + 1) cs
  | p, _ :: cs => thWs ks gen (p + 1) cs
def nodupN : List Nat → Bool
  | [] => true
  | k :: l => !l.contains k && nodupN l
def upd (h : Heap) (ws : List (Nat × Row)) : Heap := ws.foldl (fun h x => h.set x.1 x.2) h

/-- the table of objects, some of them hidden -/
def lkOf (h : Heap) (hide : List Nat) : Look := fun k => if hide.contains k then (0, .dead) else h.getD k (0, .dead)
/-- a result is pure but for its own arrays -/
def rOk (r : PV) : Bool := (rcells r).all fun c => match c with
  | .uslc es => es.all noRefE
  | _ => true

/-! ### statements -/
structure XSt where
  loc : List PV
  vars : List PV
  heap : Heap
def evO (loc vars : List PV) : Opd → PV
  | .l i => loc.getD i .undef
  | .v i => vars.getD i .undef
  | .c p => p
def setO (vars : List PV) (k : Option Nat) (v : PV) : List PV :=
  match k with
  | some k => vars.set k v
  | none => vars
/-- is the operation carried out? -/
def gdO (loc vars : List PV) : Option (Opd × Bool) → Option Bool
  | none => some true
  | some (o, b) => match evO loc vars o with
    | .bool c => some (c == b)
    | .tup [] => some false
    | _ => none
def ksF (ks : List (Nat × Nat)) (p : Nat) : Nat × Nat := ks.getD p (0, 0)
def genF (lk : Look) (k : Nat) : Nat := (lk k).1 + 1
def callOk (n : Nat) (ks : List (Nat × Nat)) (own : Bool) (r : PV) : Bool :=
  let sites := (thWs (ksF ks) (fun _ => 0) 0 (rcells r)).map (·.1)
  rOk r && nodupN sites && sites.all (fun k => Nat.blt k n && ((ks.filter (·.2 != 0)).map (·.1)).contains k) && (!own || noS r)
inductive XExit where
  | normal
  | exit (id : Nat)
  | ret
/-- what a round of a loop over a function does: its arguments, memory, what follows -/
abbrev YT := List PV → Heap → (Option XExit → Heap → Prop) → Prop
/-- what calls give: of a function that is passed frozen memory; of a function value that shares the caller's memory (the rows that it writes); of one that may be a loop's body; of a function that is looped over -/
structure FNs where
  fn : FuncId → List Nat → List PV → PV → Prop
  fi : PV → List PV → Heap → PV → List (Nat × Row) → Prop
  fy : PV → List PV → List PV → Heap → (PV → List PV → Heap → Prop) → Prop
  it : PV → YT → Heap → (Option XExit → Heap → Prop) → Prop
  my : ∀ {v a vs h} {K K' : PV → List PV → Heap → Prop}, (∀ r vs h, K r vs h → K' r vs h) → fy v a vs h K → fy v a vs h K'
  mi : ∀ {v Y h} {K K' : Option XExit → Heap → Prop}, (∀ p h, K p h → K' p h) → it v Y h K → it v Y h K'
/-- the operations one after the other; FN: what calls give -/
def xrun (FN : FNs) : List XOper → XSt → (XSt → Prop) → Prop
  | [], st, Q => Q st
  | x :: xs, st, Q => match gdO st.loc st.vars x.guard with
    | none => False
    | some false => xrun FN xs ⟨st.loc ++ [.tup []], setO st.vars x.var (.tup []), st.heap⟩ Q
    | some true => match x.op with
      | .call f args ks _ => ∃ r, FN.fn f (ks.map (·.2)) (args.map fun a => fzV (lkOf st.heap x.hide) (evO st.loc st.vars a)) r ∧
          callOk st.heap.length ks ((args.map (evO st.loc st.vars)).any (hasOwn (lkOf st.heap x.hide))) r = true ∧
          xrun FN xs ⟨st.loc ++ [thV (ksF ks) (genF (lkOf st.heap x.hide)) r], setO st.vars x.var (thV (ksF ks) (genF (lkOf st.heap x.hide)) r), upd st.heap (thWs (ksF ks) (genF (lkOf st.heap x.hide)) 0 (rcells r))⟩ Q
      | .callv f args => ∃ r ws, FN.fi (evO st.loc st.vars f) (args.map (evO st.loc st.vars)) st.heap r ws ∧ xrun FN xs ⟨st.loc ++ [r], setO st.vars x.var r, upd st.heap ws⟩ Q
      | .cally f args => FN.fy (evO st.loc st.vars f) (args.map (evO st.loc st.vars)) st.vars st.heap fun r vs h => h.length = st.heap.length ∧ xrun FN xs ⟨st.loc ++ [r], setO vs x.var r, h⟩ Q
      | op => match aop (evO st.loc st.vars) (lkOf st.heap x.hide) op with
        | some (p, ws) => xrun FN xs ⟨st.loc ++ [p], setO st.vars x.var p, upd st.heap ws⟩ Q
        | none => False

abbrev XPost := XExit → List PV → Heap → Prop
def xthen (K : List PV → Heap → Prop) (Q : XPost) : XPost
  | .normal, vs, h => K vs h
  | e, vs, h => Q e vs h
def xin (id : Nat) (Q : XPost) : XPost
  | .exit i, vs, h => if i = id then Q .normal vs h else Q (.exit i) vs h
  | e, vs, h => Q e vs h
/-- at most n rounds -/
def xloop (body : XPost → List PV → Heap → Prop) (Q : XPost) : Nat → List PV → Heap → Prop
  | 0, _, _ => False
  | n + 1, vs, h => body (xthen (xloop body Q n) Q) vs h
/-- how many objects it may make -/
def sitesOf : XOp → Nat
  | .alloc .. | .box .. | .mkarr .. | .makeSlice .. | .append .. => 1
  | .call _ _ ks _ => (ks.filter (·.2 != 0)).length
  | _ => 0
def siteNos : XOp → List Nat
  | .alloc k _ | .box k _ | .mkarr k _ _ _ | .makeSlice k _ _ _ _ _ | .append k _ _ _ _ _ => [k]
  | .call _ _ ks _ => (ks.filter (·.2 != 0)).map (·.1)
  | _ => []
def sitesIn (n : Nat) (xs : List XOper) : Bool := xs.all fun x => (siteNos x.op).all fun k => Nat.blt k n && !x.hide.contains k
/-! a state is settled: what is not live is forgotten, objects are numbered anew -/
def sAdd (ks : List Nat) (k : Nat) : List Nat := if ks.contains k then ks else ks ++ [k]
def sCell (ks : List Nat) : PV → List Nat
  | .own k _ _ _ _ _ => sAdd ks k
  | .ptr k _ _ => sAdd ks k
  | _ => ks
def sCells (ks : List Nat) (cs : List PV) : List Nat := cs.foldl sCell ks
def sVars (vs : List PV) (live : List Nat) : List Nat := live.foldl (fun ks v => sCells ks (ecells (vs.getD v .undef))) []
def sObj (h : Heap) (a : List Nat) (k : Nat) : List Nat := match (h.getD k (0, .dead)).2 with
  | .var cs => sCells a cs
  | _ => a
def sKs (live : List Nat) (vs : List PV) (h : Heap) : List Nat := (sVars vs live).foldl (sObj h) (sVars vs live)
def ren (ks : List Nat) (c0 : Nat) (h : Heap) : PV → PV
  | .own k g gl s o l => match ks.idxOf? k with
    | some i => .own (c0 + i) (if (h.getD k (0, .dead)).1 = g then 1 else 0) gl s o l
    | none => .undef
  | .ptr k g o => match ks.idxOf? k with
    | some i => .ptr (c0 + i) (if (h.getD k (0, .dead)).1 = g then 1 else 0) o
    | none => .undef
  | .bool b => .bool b
  | .int k n => .int k n
  | .str s => .str s
  | .lit v => .lit v
  | .nils => .nils
  | .slc es => .slc es
  | _ => .undef
def renV (ks : List Nat) (c0 : Nat) (h : Heap) : PV → PV
  | .agg cs => .agg (cs.map (ren ks c0 h))
  | c => ren ks c0 h c
def renO (ks : List Nat) (c0 : Nat) (h : Heap) : Ob → Ob
  | .var cs => if (cs.map (ren ks c0 h)).all one then .var (cs.map (ren ks c0 h)) else .dead
  | .arr sz _ fr es => if es.all noRefE then .arr sz 0 fr es else .dead
  | .dead => .dead
def sRow (ks : List Nat) (c0 : Nat) (h : Heap) (p : Nat) : Row := if p < c0 then (0, .dead) else match ks[p - c0]? with
  | some k => (1, renO ks c0 h (h.getD k (0, .dead)).2)
  | none => (0, .dead)
def sGen (f : Nat → Row) : Nat → Nat → Heap
  | 0, _ => []
  | n + 1, p => f p :: sGen f n (p + 1)
def sHeap (ks : List Nat) (c0 : Nat) (h : Heap) : Heap := sGen (sRow ks c0 h) h.length 0
def sVs (live ks : List Nat) (c0 : Nat) (h : Heap) : Nat → List PV → List PV
  | _, [] => []
  | i, v :: vs => (if live.contains i then renV ks c0 h v else .undef) :: sVs live ks c0 h (i + 1) vs
def sOk (ks : List Nat) (c0 : Nat) (h : Heap) : Bool := nodupN ks && Nat.ble (c0 + ks.length) h.length
def settled (live : List Nat) (c0 : Nat) (vs : List PV) (h : Heap) (K : List PV → Heap → Prop) : Prop :=
  sOk (sKs live vs h) c0 h = true ∧ K (sVs live (sKs live vs h) c0 h 0 vs) (sHeap (sKs live vs h) c0 h)
/-- what leads to a frozen array: read as frozen memory -/
def frzR (h : Heap) : PV → PV
  | .own k g gl s o l => match h.getD k (0, .dead) with
    | (g', .arr s' _ fr es) => if g' = g ∧ es.length = gl ∧ s' = s ∧ o = 0 ∧ l = gl ∧ fr = true ∧ es.all noRefE = true then .slc (es.map frzE) else .own k g gl s o l
    | _ => .own k g gl s o l
  | c => c
/-- an array frozen: whole, or the arrays in its elements; of a variable: what leads to frozen arrays -/
def frzO (h : Heap) (r : Bool) : Ob → Ob
  | .arr sz ver fr es => if es.all noRefE then .arr sz (ver + 1) (fr || r) (es.map frzE) else .arr sz ver fr es
  | .var cs => .var (cs.map (frzR h))
  | .dead => .dead
def frzH : List (Nat × Bool) → Heap → Heap
  | [], h => h
  | x :: l, h => frzH l (h.set x.1 ((h.getD x.1 (0, .dead)).1, frzO h x.2 (h.getD x.1 (0, .dead)).2))
def matP (v : Nat) (c : Option Nat) (k sz : Nat) (vs : List PV) (h : Heap) : List PV × Heap :=
  match h[k]? with
  | some (g, .dead) => if 0 < sz then (match c, vs.getD v .undef with
    | none, .nils => (vs.set v (.own k (g + 1) 0 sz 0 0), h.set k (g + 1, .arr sz 0 false []))
    | some j, .ptr k2 g2 0 => match h[k2]? with
      | some (g3, .var cs) => if g3 = g2 then (match cs[j]? with
        | some .nils => (vs, (h.set k (g + 1, .arr sz 0 false [])).set k2 (g3, .var (cs.set j (.own k (g + 1) 0 sz 0 0))))
        | _ => (vs, h)) else (vs, h)
      | _ => (vs, h)
    | _, _ => (vs, h)) else (vs, h)
  | _ => (vs, h)
/-- without what freezes -/
def stripF : XCode → XCode
  | .seq a b => .seq (stripF a) (stripF b)
  | .cond c a b => .cond c (stripF a) (stripF b)
  | .block id b => .block id (stripF b)
  | .loop b => .loop (stripF b)
  | .loopS l c b => .loopS l c (stripF b)
  | .frz _ b => stripF b
  | .rfor g ps a b => .rfor g ps (stripF a) (stripF b)
  | c => c
def strip : XCode → XCode
  | .seq a b => .seq (strip a) (strip b)
  | .cond c a b => .cond c (strip a) (strip b)
  | .block id b => .block id (strip b)
  | .loop b => .loop (strip b)
  | .loopS _ _ b => .loop (strip b)
  | .frz _ b => strip b
  | .mat _ _ _ _ b => strip b
  | .rfor g ps a b => .rfor g ps (stripF a) (stripF b)
  | c => c
/-- the loop's variables set -/
def setPs : List PV → List (Option Nat) → List PV → List PV
  | vs, p :: ps, v :: l => setPs (setO vs p v) ps l
  | vs, _, _ => vs
def pend : XExit → Option XExit
  | .normal => none
  | e => some e
def unp : Option XExit → XExit
  | none => .normal
  | some e => e
/-- where the assignment ends -/
def xasg (K : List PV → Heap → Prop) : XPost
  | .normal, vs, h => K vs h
  | _, _, _ => False
def xwp (FN : FNs) : XCode → XPost → List PV → Heap → Prop
  | .skip, Q, vs, h => Q .normal vs h
  | .reg xs, Q, vs, h => sitesIn h.length xs = true ∧ xrun FN xs ⟨[], vs, h⟩ (fun st => Q .normal st.vars st.heap)
  | .seq a b, Q, vs, h => xwp FN a (xthen (xwp FN b Q) Q) vs h
  | .cond c a b, Q, vs, h => match evO [] vs c with
    | .bool true => xwp FN a Q vs h
    | .bool false => xwp FN b Q vs h
    | _ => False
  | .block id b, Q, vs, h => xwp FN b (xin id Q) vs h
  | .loop b, Q, vs, h => ∃ n, xloop (xwp FN b) Q n vs h
  | .loopS live c0 b, Q, vs, h => ∃ n, xloop (fun Q vs h => settled live c0 vs h (xwp FN b Q)) Q n vs h
  | .frz l b, Q, vs, h => xwp FN b Q vs (frzH l h)
  | .mat v c k sz b, Q, vs, h => xwp FN b Q (matP v c k sz vs h).1 (matP v c k sz vs h).2
  | .rfor g ps a b, Q, vs, h => FN.it (evO [] vs g) (fun args h1 k => args.length = ps.length ∧ xwp FN a (xasg fun vs h2 => xwp FN b (fun e _ h3 => k (pend e) h3) vs h2) (setPs vs ps args) h1) h fun p h' => Q (unp p) vs h'
  | .exit id, Q, vs, h => Q (.exit id) vs h
  | .ret, Q, vs, h => Q .ret vs h
/-! results -/
def rvC (lk : Look) : PV → PV
  | .own k g gl s o l => match lk k with
    | (g', .arr s' _ fr es) => if g' = g ∧ es.length = gl ∧ s' = s ∧ o = 0 ∧ l = gl ∧ fr = false ∧ es.all noRefE = true then .uslc es else .undef
    | _ => .undef
  | .nils => .nils
  | .bool b => .bool b
  | .int k n => .int k n
  | .str t => .str t
  | .lit v => .lit v
  | .slc es => .slc es
  | _ => .undef
def rvE (lk : Look) : PV → PV
  | .agg cs => .agg (cs.map (rvC lk))
  | c => rvC lk c
def rvV (lk : Look) : PV → PV
  | .tup vs => .tup (vs.map (rvE lk))
  | c => rvE lk c
/-- the numbers of the arrays that go out -/
def outIds (p : PV) : List Nat := ((comps p).flatMap ecells).filterMap fun c => match c with
  | .own k _ _ _ _ _ => some k
  | _ => none
/-- their elements' sizes are those of the result's type -/
def szsOk (szs : List Nat) : Nat → List PV → Bool
  | _, [] => true
  | q, .own _ _ _ s _ _ :: cs => szs.getD q 0 == s && szsOk szs (q + 1) cs
  | q, _ :: cs => szsOk szs (q + 1) cs
def resV (lk : Look) (vars : List PV) : Nat × Option (Bool × Nat) → Option PV
  | (k, none) => some (vars.getD k .undef)
  | (k, some (g, s)) => loadP lk g s (vars.getD k .undef)
def resVs (lk : Look) (vars : List PV) : List (Nat × Option (Bool × Nat)) → Option (List PV)
  | [] => some []
  | r :: rs => match resV lk vars r, resVs lk vars rs with
    | some v, some vs => some (v :: vs)
    | _, _ => none
def oneV : List PV → PV
  | [v] => v
  | vs => .tup vs
/-- what a body's end gives -/
def xret (rs : List (Nat × Option (Bool × Nat))) (szs : List Nat) (r : PV) : XPost := fun e vs h =>
  (match e with | .exit _ => False | _ => True) ∧ ∃ l, resVs (lkOf h []) vs rs = some l ∧ nodupN (outIds (oneV l)) = true ∧ szsOk szs 0 ((comps (oneV l)).flatMap ecells) = true ∧ rvV (lkOf h []) (oneV l) = r
end Go.Proofs.Ytalgbgeocpbadaa.Am
