/-
  The plain machine and that it is sound, part 1.
-/
import Derived.WalkKit
import Derived.WalkSpells
import Derived.WalkLawsBesides
import Derived.Lib.Hide
import Derived.Handy
import Derived.RangeFuncNested
import Derived.RangeFuncLeaves
import Derived.RangeFuncCalls
import Derived.OrdersIn
import Derived.LoopNIn
import Derived.CallsIn
import Derived.Scope
import Derived.Laws.Small
import Derived.Laws.CopyRow
import Derived.Laws.MakeOwn
/-
  A plain machine: values without addresses, a small table of the call's own objects; what its operations do.
-/
namespace Go.Proofs.Ytgdcogoacnghkaa.Am
set_option linter.unusedSimpArgs false
set_option linter.unusedVariables false
set_option linter.unusedSectionVars false

/-- plain values -/
inductive PV where
  | undef
  | bool (b : Bool)
  | int (k : IntKind) (n : Int)
  | str (s : ByteArray)
  /-- a constant without an address: nil of some kind -/
  | lit (v : Value)
  | nils
  /-- a slice that nobody writes to -/
  | slc (es : List PV)
  /-- a slice that lies in an element of an array, and nowhere else -/
  | uslc (es : List PV)
  /-- a slice of the array with number k; s: the elements' size -/
  | own (k gen glen s off len : Nat)
  /-- a slice of the array that lies in the cell (i, j) of the array k -/
  | nown (k gen ver i j off len : Nat)
  /-- the address of a cell of a variable -/
  | ptr (k gen off : Nat)
  /-- the address of cell j of element i of an array; s: the elements' size -/
  | eptr (k gen glen s i j : Nat)
  /-- .. of cell l of element m of the array that lies in cell (i, j) of array k -/
  | nptr (k gen ver s i j m l : Nat)
  /-- an address in memory that nobody writes to: the cells that lie there -/
  | fptr (cs : List PV)
  | agg (cs : List PV)
  | tup (vs : List PV)
  | fn (f : Fn) (first captured : List PV)
  /-- a slice, not nil, of an array that nobody writes to, whose elements may be slices of the call's own -/
  | lst (es : List PV)
  /-- a cell of which nothing is known -/
  | any
  /-- a map of the call's own -/
  | mapv (k gen : Nat)
  /-- a map that nobody writes to: keys and values -/
  | mlit (ks vs : List PV)
  deriving Inhabited

inductive Ob where
  | dead
  | var (cs : List PV)
  | arr (sz ver : Nat) (fr : Bool) (es : List PV)
  /-- a map: its keys and values, in the order in which they came -/
  | mp (fr : Bool) (ks vs : List PV)
  deriving Inhabited
abbrev Row := Nat × Ob
abbrev Heap := List Row

def ecells : PV → List PV
  | .agg cs => cs
  | c => [c]

/-- operands: the result of an operation of the same region, a variable, a constant, a function -/
inductive Opd where
  | l (i : Nat)
  | v (i : Nat)
  | c (p : PV)
  deriving Inhabited

inductive XOp where
  | mv (x : Opd)
  | pick (c a b : Opd)
  | alloc (k : Nat) (zs : List PV)
  | box (k : Nat) (x : Opd)
  | build (zs : List PV) (parts : List (Nat × Nat × Opd))
  | mkarr (k sz : Nat) (zs : List PV) (parts : List (Nat × Opd))
  /-- a list written out that nobody writes to -/
  | lit (sz : Nat) (zs : List PV) (parts : List (Nat × Opd))
  | load (agg : Bool) (sz : Nat) (a : Opd)
  /-- .. from a variable -/
  | loadV (agg : Bool) (sz : Nat) (a : Opd)
  | store (sz : Nat) (a v : Opd)
  | nilchk (x : Opd)
  /-- bt: the operands are of a type of truth values -/
  | bin (op : BinOp) (bt : Bool) (x y : Opd)
  | un (op : UnOp) (x : Opd)
  | conv (k : IntKind) (x : Opd)
  | convId (x : Opd)
  | convStr (x : Opd)
  | makeSlice (k sz bytes : Nat) (z : PV) (len cap : Opd)
  | slice (st : Bool) (sz : Nat) (x : Opd) (lo hi mx : Option Opd)
  | fieldAddr (off : Nat) (x : Opd)
  | field (agg : Bool) (off sz : Nat) (x : Opd)
  | indexAddr (sz : Nat) (x i : Opd)
  | indexAddrA (n sz : Nat) (x i : Opd)
  | indexA (agg : Bool) (n sz : Nat) (x i : Opd)
  | indexS (x i : Opd)
  | extract (x : Opd) (i : Nat)
  /-- ks: the arrays of the result and their elements' sizes; al: parts of the result may be parts of what is passed -/
  | call (f : FuncId) (args : List Opd) (ks : List (Nat × Nat)) (al : Bool)
  | callv (f : Opd) (args : List Opd)
  /-- .. in a region whose order is not drawn: it may be the body of a loop over a function -/
  | cally (f : Opd) (args : List Opd)
  /-- what has no meaning: a panic -/
  | stuck
  | len (st : Bool) (x : Opd)
  | lenK (n : Nat)
  | minmax (mx : Bool) (xs : List Opd)
  /-- mode 1: x is a list written out in the same statement; mode 2: s is one, and nothing that is read changes -/
  | append (k sz bytes mode : Nat) (s x : Opd)
  | appendF (k sz bytes : Nat) (s x : Opd)
  /-- maps; kt: the keys' kind (0: truth values, 1: numbers, 2: strings); z: the values' zero -/
  | makeMap (k : Nat)
  | mapUpd (kt : Nat) (m x v : Opd)
  | lookup (kt : Nat) (ok : Bool) (z : PV) (m x : Opd)
  /-- .. of an entry that is appended to and then stored again -/
  | lookupT (k kt sz : Nat) (z : PV) (m x : Opd)
  | mapEntry (k kt sz : Nat) (z : PV) (m x : Opd)
  | entryStore (m i v : Opd)
  | copy (sz : Nat) (d s : Opd)
  | mkfn (f : Fn) (first captured : List Opd)
  /-- a variable of an array type (elements of one cell) is an array of its own; v: its address -/
  | allocA (k : Nat) (zs : List PV)
  | boxA (k : Nat) (x : Opd)
  | loadA (n : Nat) (a : Opd)
  | storeA (n : Nat) (a v : Opd)
  | sliceA (n : Nat) (x : Opd) (lo hi : Option Opd)
  /-- structs of plain cells compared; ts: the cells' kinds -/
  | eqS (neg : Bool) (ts : List Nat) (x y : Opd)
  /-- is a slice nil? -/
  | eqNil (neg : Bool) (x y : Opd)
  deriving Inhabited

structure XOper where
  op : XOp
  /-- the variable that is written -/
  var : Option Nat
  guard : Option (Opd × Bool)
  hide : List Nat
  deriving Inhabited

inductive XCode where
  | skip
  | reg (ops : List XOper)
  | seq (a b : XCode)
  | cond (c : Opd) (a b : XCode)
  | block (id : Nat) (b : XCode)
  | loop (b : XCode)
  /-- .. whose state is settled at each round's start: the variables that live on, where objects are numbered from -/
  | loopS (live : List Nat) (c0 : Nat) (b : XCode)
  /-- arrays that nobody writes to from here on (false: those in their elements alone) -/
  | frz (l : List (Nat × Bool)) (b : XCode)
  /-- a slice that is nil, in a variable or in a cell of what it leads to, is taken as an array of no elements: its number, its elements' size -/
  | mat (v : Nat) (c : Option Nat) (k sz : Nat) (b : XCode)
  /-- a loop over a function: its variables, their assignment, the body -/
  | rfor (g : Opd) (ps : List (Option Nat)) (a b : XCode)
  | exit (id : Nat)
  | ret
  deriving Inhabited

/-! ### what the operations do -/
def andI (k : IntKind) (a b : Int) : Int := k.wrap ((BitVec.ofInt k.bits a &&& BitVec.ofInt k.bits b).toNat)
def orI (k : IntKind) (a b : Int) : Int := k.wrap ((BitVec.ofInt k.bits a ||| BitVec.ofInt k.bits b).toNat)
def xorI (k : IntKind) (a b : Int) : Int := k.wrap ((BitVec.ofInt k.bits a ^^^ BitVec.ofInt k.bits b).toNat)
def andNotI (k : IntKind) (a b : Int) : Int := k.wrap ((BitVec.ofInt k.bits a &&& ~~~(BitVec.ofInt k.bits b)).toNat)
def binP (op : BinOp) (bt : Bool) : PV → PV → Option PV
  | .int k a, .int k' b => match op with
    | .shl => if b < 0 then none else some (.int k (k.wrap (a * 2 ^ (min b.toNat k.bits))))
    | .shr => if b < 0 then none else some (.int k (a.fdiv (2 ^ (min b.toNat k.bits))))
    | _ => if k = k' then match op with
      | .add => some (.int k (k.wrap (a + b)))
      | .sub => some (.int k (k.wrap (a - b)))
      | .mul => some (.int k (k.wrap (a * b)))
      | .quo => if b = 0 then none else some (.int k (k.wrap (a.tdiv b)))
      | .rem => if b = 0 then none else some (.int k (a.tmod b))
      | .and => some (.int k (andI k a b))
      | .or => some (.int k (orI k a b))
      | .xor => some (.int k (xorI k a b))
      | .andNot => some (.int k (andNotI k a b))
      | .eql => some (.bool (a == b))
      | .neq => some (.bool (a != b))
      | .lss => some (.bool (a < b))
      | .leq => some (.bool (a ≤ b))
      | .gtr => some (.bool (a > b))
      | .geq => some (.bool (a ≥ b))
      | _ => none else none
  | .bool a, .bool b => if bt = false then none else match op with
    | .eql => some (.bool (a == b))
    | .neq => some (.bool (a != b))
    | _ => none
  | .str a, .str b => match op with
    | .eql => some (.bool (a.toList == b.toList))
    | .neq => some (.bool !(a.toList == b.toList))
    | .add => if ((a.size + b.size : Nat) : Int) > IntKind.i64.max then none else some (.str (a ++ b))
    | _ => none
  | _, _ => none
/-! maps -/
def keyTag : PV → Nat
  | .bool _ => 0
  | .int _ _ => 1
  | .str _ => 2
  | _ => 3
def sameK : PV → PV → Option Bool
  | .int k a, .int k' b => if k = k' then some (a == b) else none
  | .str a, .str b => some (a == b)
  | .bool a, .bool b => some (a == b)
  | _, _ => none
/-- where a key is -/
def mfind (x : PV) : List PV → Nat → Option (Option Nat)
  | [], _ => some none
  | e :: ks, i => match sameK x e with
    | some true => some (some i)
    | some false => mfind x ks (i + 1)
    | none => none
/-- a plain function -/
def fn0 : PV → Bool
  | .fn (.func _) [] [] => true
  | _ => false
def unP (op : UnOp) : PV → Option PV
  | .bool b => match op with | .not => some (.bool !b) | _ => none
  | .int k n => match op with | .neg => some (.int k (k.wrap (0 - n))) | _ => none
  | _ => none

/-- a value of one cell -/
def one : PV → Bool
  | .agg _ | .tup _ | .uslc _ | .undef | .fn .. | .lst _ => false
  | _ => true
/-- what does not lead into the call's own memory, nor is a slice of its own -/
def pureC : PV → Bool
  | .bool _ | .int _ _ | .str _ | .lit _ | .slc _ | .mlit _ _ => true
  | _ => false
def isU : PV → Bool
  | .uslc _ | .nils => true
  | _ => false
/-- frozen: the cell of an array's element -/
def frzC : PV → PV
  | .uslc es => .slc es
  | .nils => .slc []
  | c => c
def frzE : PV → PV
  | .agg cs => .agg (cs.map frzC)
  | c => frzC c
/-- an element without references -/
def noRefE (e : PV) : Bool := (ecells e).all fun c => pureC c || isU c

def takeE (agg : Bool) (sz : Nat) (cs : List PV) (off : Nat) : Option PV :=
  if agg then (if off + sz ≤ cs.length then some (.agg ((cs.drop off).take sz)) else none) else cs[off]?
def setAll (cs : List PV) (off : Nat) : List PV → List PV
  | [] => cs
  | v :: vs => setAll (cs.set off v) (off + 1) vs
def setE (e : PV) (j : Nat) (vs : List PV) : PV :=
  match e with
  | .agg cs => .agg (setAll cs j vs)
  | e => vs.headD e
def ldC (k g ver i j : Nat) : PV → PV
  | .uslc ns => .nown k g ver i j 0 ns.length
  | c => c
def ldCs (k g ver i j : Nat) : List PV → List PV
  | [] => []
  | c :: cs => ldC k g ver i j c :: ldCs k g ver i (j + 1) cs
abbrev Eff := PV × List (Nat × Row)
abbrev Look := Nat → Row

def loadP (lk : Look) (agg : Bool) (sz : Nat) : PV → Option PV
  | .ptr k g o => match lk k with
    | (g', .var cs) => if g' = g then takeE agg sz cs o else none
    | _ => none
  | .eptr k g gl s i j => match lk k with
    | (g', .arr s' ver _ es) => if g' = g ∧ es.length = gl ∧ s' = s then (match es[i]? with
      | some e => match takeE agg sz (ecells e) j with
        | some (.agg cs) => if agg then some (.agg (ldCs k g ver i j cs)) else none
        | some c => some (ldC k g ver i j c)
        | none => none
      | none => none) else none
    | _ => none
  | .nptr k g ver s i j m l => match lk k with
    | (g', .arr _ ver' _ es) => if g' = g ∧ ver' = ver then (match es[i]? with
      | some e => match (ecells e)[j]? with
        | some (.uslc ns) => match ns[m]? with
          | some x => if (ecells x).length = s then takeE agg sz (ecells x) l else none
          | none => none
        | _ => none
      | none => none) else none
    | _ => none
  | .fptr cs => takeE agg sz cs 0
  | _ => none

/-- a cell that is put into an element of an array: a slice of the call's own moves there -/
def embC (lk : Look) : PV → Option (PV × List Nat)
  | .own k g gl s o l => match lk k with
    | (g', .arr s' _ fr es) => if g' = g ∧ es.length = gl ∧ s' = s ∧ o = 0 ∧ l = gl ∧ es.all noRefE = true then (if fr then some (.slc (es.map frzE), []) else some (.uslc (es.map frzE), [k])) else none
    | _ => none
  | .nown .. | .nptr .. | .undef | .uslc _ | .agg _ | .tup _ | .fn .. | .lst _ | .any => none
  | c => some (c, [])
def embCs (lk : Look) : List PV → Option (List PV × List Nat)
  | [] => some ([], [])
  | c :: cs => match embC lk c, embCs lk cs with
    | some (d, ks), some (ds, ls) => if ks.all (fun k => !ls.contains k) then some (d :: ds, ls ++ ks) else none
    | _, _ => none
def reE : PV → List PV → PV
  | .agg _, ds => .agg ds
  | e, ds => ds.headD e
def embE (lk : Look) (e : PV) : Option (PV × List Nat) := match embCs lk (ecells e) with
  | some (ds, ks) => some (reE e ds, ks)
  | none => none
def embEs (lk : Look) : List PV → Option (List PV × List Nat)
  | [] => some ([], [])
  | c :: cs => match embE lk c, embEs lk cs with
    | some (d, ks), some (ds, ls) => if ks.all (fun k => !ls.contains k) then some (d :: ds, ls ++ ks) else none
    | _, _ => none
def kill (lk : Look) (ks : List Nat) : List (Nat × Row) := ks.map fun k => (k, ((lk k).1, .dead))

def storeP (lk : Look) (sz : Nat) (a v : PV) : Option (List (Nat × Row)) :=
  if (ecells v).length = sz then
    match a with
    | .ptr k g o => match lk k with
      | (g', .var cs) => if g' = g ∧ o + sz ≤ cs.length ∧ (ecells v).all one = true then some [(k, (g, .var (setAll cs o (ecells v))))] else none
      | _ => none
    | .eptr k g gl s i j => match lk k with
      | (g', .arr sz' ver fr es) => if g' = g ∧ es.length = gl ∧ sz' = s ∧ fr = false then (match es[i]? with
        | some e => if j + sz ≤ (ecells e).length then (match embCs lk (ecells v) with
          | some (ds, ks) => if ks.contains k then none else
            some (kill lk ks ++ [(k, (g, .arr sz' (if (((ecells e).drop j).take sz).any isU || ds.any isU then ver + 1 else ver) fr (es.set i (setE e j ds))))])
          | none => none) else none
        | none => none) else none
      | _ => none
    | .nptr k g ver s i j m l => match lk k with
      | (g', .arr sz' ver' fr es) => if g' = g ∧ ver' = ver ∧ fr = false then (match es[i]? with
        | some e => match (ecells e)[j]? with
          | some (.uslc ns) => match ns[m]? with
            | some x => if (ecells x).length = s ∧ l + sz ≤ s ∧ (ecells v).all pureC = true then
                some [(k, (g, .arr sz' ver fr (es.set i (setE e j [.uslc (ns.set m (setE x l (ecells v)))]))))] else none
            | none => none
          | _ => none
        | none => none) else none
      | _ => none
    | _ => none
  else none

def asInt : PV → Option Int
  | .int _ n => some n
  | _ => none
def sliceB (n : Nat) (lo hi mx : Option PV) : Option (Nat × Nat) :=
  match (match hi with | some v => asInt v | none => some (n : Int)), (match lo with | some v => asInt v | none => some 0) with
  | some h, some l => if 0 ≤ l ∧ l ≤ h ∧ h ≤ n then (match mx with
    | none => some (l.toNat, h.toNat)
    | some v => if hi.isSome ∧ asInt v = some h then some (l.toNat, h.toNat) else none) else none
  | _, _ => none
/-- elements of sz cells each -/
def szOk (sz : Nat) (es : List PV) : Bool := es.all fun e => (ecells e).length == sz
def isStr : PV → Bool
  | .str _ => true
  | _ => false
def sliceP (st : Bool) (sz : Nat) (x : PV) (lo hi mx : Option PV) : Option PV :=
  if isStr x != st then none else match x with
  | .slc es => match sliceB es.length lo hi mx with
    | some (l, h) => if l = 0 ∨ szOk sz es = true then some (.slc ((es.drop l).take (h - l))) else none
    | none => none
  | .own k g gl s o n => if mx.isSome then none else match sliceB n lo hi none with
    | some (l, h) => if sz = s then some (.own k g gl s (o + l) (h - l)) else none
    | none => none
  | .nown k g ver i j o n => if mx.isSome then none else match sliceB n lo hi none with
    | some (l, h) => if l = 0 then some (.nown k g ver i j o h) else none
    | none => none
  | .nils => match sliceB 0 lo hi mx with
    | some _ => some .nils
    | none => none
  | .str s => if mx.isSome then none else match sliceB s.size lo hi none with
    | some (l, h) => some (.str (s.extract l h))
    | none => none
  | _ => none
def lenP (st : Bool) (x : PV) : Option Nat := if isStr x != st then none else match x with
  | .slc es => some es.length
  | .own _ _ _ _ _ l => some l
  | .nown _ _ _ _ _ _ l => some l
  | .lst es => some es.length
  | .nils => some 0
  | .str s => some s.size
  | _ => none
def idxA (sz : Nat) (x : PV) (i : Int) : Option PV :=
  if 0 ≤ i then
    match x with
    | .slc es => match es[i.toNat]? with
      | some e => if (ecells e).length = sz ∧ sz ≠ 0 then some (.fptr (ecells e)) else none
      | none => none
    | .own k g gl s o l => if i < l ∧ sz = s then some (.eptr k g gl s (o + i.toNat) 0) else none
    | .nown k g ver ei ej o l => if i < l then some (.nptr k g ver sz ei ej (o + i.toNat) 0) else none
    | _ => none
  else none
def addrOff (off : Nat) : PV → Option PV
  | .ptr k g o => some (.ptr k g (o + off))
  | .eptr k g gl s i j => some (.eptr k g gl s i (j + off))
  | .nptr k g ver s i j m l => some (.nptr k g ver s i j m (l + off))
  | .fptr cs => if off < cs.length then some (.fptr (cs.drop off)) else none
  | _ => none
/-- element m of an array whose address is p -/
def idxAA (sz : Nat) (p : PV) (m : Nat) : Option PV := match p with
  | .eptr k g gl s i j => if s = sz ∧ j = 0 ∧ i + m < gl then some (.eptr k g gl s (i + m) 0) else addrOff (m * sz) (.eptr k g gl s i j)
  | p => addrOff (m * sz) p
/-- an array as a whole -/
def loadAP (lk : Look) (n : Nat) (p : PV) : Option PV := match p with
  | .eptr k g gl s i j => if gl = n ∧ s = 1 ∧ i = 0 ∧ j = 0 then (match lk k with
    | (g', .arr sz _ _ es) => if g' = g ∧ es.length = n ∧ sz = 1 ∧ es.all pureC = true then some (.agg es) else none
    | _ => none) else loadP lk true n (.eptr k g gl s i j)
  | p => loadP lk true n p
def storeAP (lk : Look) (n : Nat) (p v : PV) : Option (List (Nat × Row)) := match p with
  | .eptr k g gl s i j => if gl = n ∧ s = 1 ∧ i = 0 ∧ j = 0 then (match v with
    | .agg cs => match lk k with
      | (g', .arr sz ver fr es) => if g' = g ∧ es.length = n ∧ sz = 1 ∧ fr = false ∧ es.all pureC = true ∧ cs.length = n ∧ cs.all pureC = true then some [(k, (g, .arr 1 ver false cs))] else none
      | _ => none
    | _ => none) else storeP lk n (.eptr k g gl s i j) v
  | p => storeP lk n p v
/-- slice of an array -/
def sliceAP (n : Nat) (p : PV) (lo hi : Option PV) : Option PV := match p with
  | .eptr k g gl s i j => if gl = n ∧ s = 1 ∧ i = 0 ∧ j = 0 ∧ n ≤ 1000000 then (match sliceB n lo hi none with
    | some (l, h) => some (.own k g gl 1 l (h - l))
    | none => none) else none
  | _ => none
/-- may it stand in a list written out? -/
def lstC : PV → Bool
  | .own .. | .nils => true
  | c => pureC c
def nilP : PV → Option Bool
  | .nils => some true
  | .lst _ => some false
  | .slc es => if es.length = 0 then none else some false
  | .own _ _ _ _ _ l => if l = 0 then none else some false
  | .nown _ _ _ _ _ _ l => if l = 0 then none else some false
  | _ => none
/-- cells compared: 0: truth values, 1: numbers, 2: strings -/
def eqC (t : Nat) : PV → PV → Option Bool
  | .int k a, .int k' b => if t = 1 ∧ k = k' then some (a == b) else none
  | .bool a, .bool b => if t = 0 then some (a == b) else none
  | .str a, .str b => if t = 2 then some (a.toList == b.toList) else none
  | _, _ => none
def eqCs : List Nat → List PV → List PV → Option Bool
  | [], [], [] => some true
  | t :: ts, a :: l, b :: m => match eqC t a b, eqCs ts l m with
    | some x, some y => some (x && y)
    | _, _ => none
  | _, _, _ => none
/-- bytes as a string -/
def byte? : PV → Option UInt8
  | .int k n => if k = .u8 then some (UInt8.ofNat n.toNat) else none
  | _ => none
def bytesL : List PV → Option (List UInt8)
  | [] => some []
  | c :: cs => match byte? c, bytesL cs with
    | some b, some bs => some (b :: bs)
    | _, _ => none
def buildP (cs : List PV) : List (Nat × Nat × PV) → Option (List PV)
  | [] => some cs
  | (off, sz, v) :: r => if (ecells v).length = sz ∧ off + sz ≤ cs.length ∧ (ecells v).all one = true then buildP (setAll cs off (ecells v)) r else none
/-- as memory that nobody writes to has it -/
def purC : PV → PV
  | .nils => .slc []
  | c => c
def purE : PV → PV
  | .agg cs => .agg (cs.map purC)
  | c => purC c
def mkarrP (sz : Nat) (es : List PV) : List (Nat × PV) → Option (List PV)
  | [] => some es
  | (i, v) :: r => if (ecells v).length = sz ∧ i < es.length ∧ (ecells v).all one = true then mkarrP sz (es.set i v) r else none
/-- the elements that are appended or copied, and what becomes of where they lay -/
def srcS (lk : Look) (mode : Nat) : PV → Option (List PV × List (Nat × Row))
  | .slc es => some (es, [])
  | .lst es => if es.length = 0 then some ([], []) else none
  | .nils => some ([], [])
  | .own k g gl s o l => match lk k with
    | (g', .arr sz ver fr es) => if g' = g ∧ es.length = gl ∧ sz = s ∧ o + l ≤ gl then
        (if mode = 1 then (match embEs lk ((es.drop o).take l) with
          | some (ds, ks) => if ks.contains k then none else some (ds, kill lk (ks ++ [k]))
          | none => none)
        else if es.all noRefE = true ∧ (mode = 2 → es.all (fun e => (ecells e).all pureC) = true) then some (((es.drop o).take l).map frzE, if es.all (fun e => (ecells e).all pureC) then [] else [(k, (g, .arr sz (ver + 1) fr (es.map frzE)))]) else none) else none
    | _ => none
  | .nown k g ver i j o l => match lk k with
    | (g', .arr _ ver' _ es) => if g' = g ∧ ver' = ver then (match es[i]? with
      | some e => match (ecells e)[j]? with
        | some (.uslc ns) => if o = 0 ∧ l ≤ ns.length then some (ns.take l, []) else none
        | _ => none
      | none => none) else none
    | _ => none
  | _ => none
/-- n new zeros -/
def srcZ : PV → Option (List PV × List (Nat × Row))
  | .int _ n => if 0 ≤ n ∧ n ≤ 140737488355328 then some (List.replicate n.toNat (.int .u8 0), []) else none
  | _ => none
def srcP (lk : Look) (mode : Nat) (p : PV) : Option (List PV × List (Nat × Row)) := if mode = 4 then srcZ p else srcS lk mode p
def appP (lk : Look) (k sz bytes : Nat) (s : PV) (news : List PV) : Option Eff :=
  match s with
  | .nils => if news.length * bytes ≤ 140737488355328 then some (.own k ((lk k).1 + 1) news.length sz 0 news.length, [(k, ((lk k).1 + 1, .arr sz 0 false news))]) else none
  | .own k1 g gl s o l => match lk k1 with
    | (g', .arr sz1 ver fr es) => if g' = g ∧ es.length = gl ∧ sz1 = sz ∧ s = sz ∧ fr = false ∧ o = 0 ∧ l ≤ gl ∧ (l + news.length) * bytes ≤ 140737488355328 then
        (if l = gl then some (.own k1 g (gl + news.length) sz 0 (gl + news.length), [(k1, (g, .arr sz ver fr (es ++ news)))])
         else some (.own k1 g (es.take l ++ news ++ es.drop (l + news.length)).length sz 0 (l + news.length), [(k1, (g, .arr sz (ver + 1) fr (es.take l ++ news ++ es.drop (l + news.length))))])) else none
    | _ => none
  | _ => none
def appDst (k : Nat) : PV → Nat
  | .own k1 _ _ _ _ _ => k1
  | _ => k
def isOwn : PV → Bool
  | .own .. => true
  | _ => false
def appOk (k mode sz : Nat) (s : PV) (news : List PV) (ws : List (Nat × Row)) : Bool :=
  !(ws.map (·.1)).contains (appDst k s) && (mode != 2 || (isOwn s && appDst k s == k)) && szOk sz news
/-- what was appended to, frozen at once -/
def frzA (sz : Nat) : PV → List (Nat × Row) → Option (PV × List (Nat × Row))
  | .own k g gl s o l, [(k', (g', .arr sz' ver fr es))] => if k' = k ∧ g' = g ∧ es.length = gl ∧ s = sz ∧ sz' = sz ∧ fr = false ∧ o = 0 ∧ l = gl ∧ es.all noRefE = true then some (.slc (es.map frzE), [(k, (g, .arr sz ver false es)), (k, (g, .arr sz (ver + 1) true (es.map frzE)))]) else none
  | _, _ => none
def foldMM (mx : Bool) : Int → List PV → Option Int
  | m, [] => some m
  | m, .int _ y :: r => foldMM mx (if mx then (if y > m then y else m) else (if y < m then y else m)) r
  | _, _ => none

/-- copy: n elements of news over those of s -/
def copyP (lk : Look) (sz : Nat) (d : PV) (news : List PV) (ws : List (Nat × Row)) : Option Eff :=
  if szOk sz news then match d with
    | .nils => some (.int .i64 0, ws)
    | .own k g gl s o l => match lk k with
      | (g', .arr sz1 ver fr es) => if g' = g ∧ es.length = gl ∧ sz1 = sz ∧ s = sz ∧ fr = false ∧ o + l ≤ gl ∧ (ws.map (·.1)).contains k = false then
          (if (news.take l).length = 0 then some (.int .i64 0, ws) else some (.int .i64 ((news.take l).length : Nat), ws ++ [(k, (g, .arr sz (ver + 1) fr (es.take o ++ news.take l ++ es.drop (o + (news.take l).length))))])) else none
      | _ => none
    | _ => none
  else none
/-- what a map may hold as long as it is settled, or frozen -/
def mvS (c : PV) : Bool := pureC c || isU c || fn0 c
/-- what may be read out of it -/
def mvR : PV → Bool
  | .nils => true
  | .agg cs => cs.all pureC
  | c => pureC c || fn0 c
/-- what is put into a map: of an array of its own, the array -/
def embM (lk : Look) (v : PV) : Option (PV × List Nat) := if one v = true then embC lk v else if mvR v = true then some (v, []) else none
def mapUpdP (lk : Look) (kt : Nat) (m x v : PV) : Option Eff := match m with
  | .mapv k g => match lk k with
    | (g', .mp fr ks vs) => if g' = g ∧ fr = false ∧ keyTag x = kt ∧ kt < 3 then (match embM lk v with
      | some (d, kl) => if kl.contains k then none else (match mfind x ks 0 with
        | some (some i) => some (.undef, kill lk kl ++ [(k, (g, .mp false ks (vs.set i d)))])
        | some none => some (.undef, kill lk kl ++ [(k, (g, .mp false (ks ++ [x]) (vs ++ [d])))])
        | none => none)
      | none => none) else none
    | _ => none
  | _ => none
def lookR (kt : Nat) (ok : Bool) (z x : PV) (ks vs : List PV) : Option Eff :=
  if keyTag x = kt ∧ kt < 3 then (match mfind x ks 0 with
    | some (some i) => match vs[i]? with
      | some c => if mvR c = true then some (if ok then .tup [c, .bool true] else c, []) else none
      | none => none
    | some none => some (if ok then .tup [z, .bool false] else z, [])
    | none => none) else none
def lookupP (lk : Look) (kt : Nat) (ok : Bool) (z m x : PV) : Option Eff := match m with
  | .mapv k g => match lk k with
    | (g', .mp _ ks vs) => if g' = g then lookR kt ok z x ks vs else none
    | _ => none
  | .mlit ks vs => lookR kt ok z x ks vs
  | .lit (.map none) => lookR kt ok z x [] []
  | _ => none
def lookTP (lk : Look) (k3 kt sz : Nat) (z m x : PV) : Option Eff := match m with
  | .mapv k g => match lk k with
    | (g', .mp fr ks vs) => if g' = g ∧ keyTag x = kt ∧ kt < 3 ∧ k ≠ k3 then (match mfind x ks 0 with
      | some (some i) => match vs[i]? with
        | some (.uslc ns) => if fr = false then (match lk k3 with
          | (g3, .dead) => if 0 < ns.length ∧ szOk sz ns = true then some (.own k3 (g3 + 1) ns.length sz 0 ns.length, [(k, (g, .mp false ks (vs.set i .any))), (k3, (g3 + 1, .arr sz 0 false ns))]) else none
          | _ => none) else none
        | some c => if mvR c = true then some (c, []) else none
        | none => none
      | some none => some (z, [])
      | none => none) else none
    | _ => none
  | _ => none
/-- an entry that is appended to: the array in it is taken out -/
def mapEntryP (lk : Look) (k3 kt sz : Nat) (z m x : PV) : Option Eff := match m with
  | .mapv k g => match lk k with
    | (g', .mp fr ks vs) => if g' = g ∧ fr = false ∧ keyTag x = kt ∧ kt < 3 ∧ k ≠ k3 then (match mfind x ks 0 with
      | some (some i) => match vs[i]? with
        | some (.uslc ns) => match lk k3 with
          | (g3, .dead) => if 0 < ns.length ∧ szOk sz ns = true then some (.tup [.own k3 (g3 + 1) ns.length sz 0 ns.length, .int .i64 i], [(k, (g, .mp false ks (vs.set i .any))), (k3, (g3 + 1, .arr sz 0 false ns))]) else none
          | _ => none
        | some c => if mvR c = true then some (.tup [c, .int .i64 i], []) else none
        | none => none
      | some none => if mvR z = true then some (.tup [z, .int .i64 ks.length], [(k, (g, .mp false (ks ++ [x]) (vs ++ [z])))]) else none
      | none => none) else none
    | _ => none
  | _ => none
def entryStP (lk : Look) (m i v : PV) : Option Eff := match m, i with
  | .mapv k g, .int ik n => match lk k with
    | (g', .mp fr ks vs) => if g' = g ∧ fr = false ∧ ik = .i64 ∧ 0 ≤ n ∧ n.toNat < vs.length ∧ one v = true then (match embC lk v with
      | some (d, kl) => if kl.contains k then none else some (.undef, kill lk kl ++ [(k, (g, .mp false ks (vs.set n.toNat d)))])
      | none => none) else none
    | _ => none
  | _, _ => none
def aop (ev : Opd → PV) (lk : Look) : XOp → Option Eff
  | .mv x => some (ev x, [])
  | .pick c a b => match ev c with
    | .bool t => some (if t then ev a else ev b, [])
    | _ => none
  | .alloc k zs => if zs.all one then some (.ptr k ((lk k).1 + 1) 0, [(k, ((lk k).1 + 1, .var zs))]) else none
  | .box k x => if (ecells (ev x)).all one then some (.ptr k ((lk k).1 + 1) 0, [(k, ((lk k).1 + 1, .var (ecells (ev x))))]) else none
  | .build zs parts => match buildP zs (parts.map fun x => (x.1, x.2.1, ev x.2.2)) with
    | some cs => some (.agg cs, [])
    | none => none
  | .mkarr k sz es parts => match mkarrP sz es (parts.map fun x => (x.1, ev x.2)) with
    | some es => some (.own k ((lk k).1 + 1) es.length sz 0 es.length, [(k, ((lk k).1 + 1, .arr sz 0 false es))])
    | none => none
  | .lit sz es parts => match mkarrP sz es (parts.map fun x => (x.1, ev x.2)) with
    | some es => if es.all (fun e => (ecells (purE e)).all pureC) then some (.slc (es.map purE), []) else if sz = 1 ∧ es.all lstC = true then some (.lst es, []) else none
    | none => none
  | .load agg sz a => match loadP lk agg sz (ev a) with
    | some v => some (v, [])
    | none => none
  | .loadV agg sz a => match ev a with
    | .ptr k g o => match loadP lk agg sz (.ptr k g o) with
      | some v => some (v, [])
      | none => none
    | _ => none
  | .store sz a v => match storeP lk sz (ev a) (ev v) with
    | some ws => some (.undef, ws)
    | none => none
  | .nilchk x => match ev x with
    | .ptr .. | .eptr .. | .nptr .. | .fptr .. => some (ev x, [])
    | .fn (.func f) a b => some (.fn (.func f) a b, [])
    | _ => none
  | .bin op bt x y => match binP op bt (ev x) (ev y) with
    | some v => some (v, [])
    | none => none
  | .un op x => match unP op (ev x) with
    | some v => some (v, [])
    | none => none
  | .conv k x => match ev x with
    | .int _ n => some (.int k (k.wrap n), [])
    | _ => none
  | .convId x => match ev x with
    | .str s => some (.str s, [])
    | _ => none
  | .makeSlice k sz bytes z len cap => match ev len, ev cap with
    | .int .i64 l, .int .i64 c => if 0 ≤ l ∧ l ≤ c ∧ c * bytes ≤ 140737488355328 ∧ c ≤ 9223372036854775807 then
        some (.own k ((lk k).1 + 1) l.toNat sz 0 l.toNat, [(k, ((lk k).1 + 1, .arr sz 0 false (List.replicate l.toNat z)))]) else none
    | _, _ => none
  | .slice st sz x lo hi mx => match sliceP st sz (ev x) (lo.map ev) (hi.map ev) (mx.map ev) with
    | some v => some (v, [])
    | none => none
  | .fieldAddr off x => match addrOff off (ev x) with
    | some v => some (v, [])
    | none => none
  | .field agg off sz x => match ev x with
    | .agg cs => match takeE agg sz cs off with
      | some v => some (v, [])
      | none => none
    | _ => none
  | .indexAddr sz x i => match ev i with
    | .int _ n => match idxA sz (ev x) n with
      | some v => some (v, [])
      | none => none
    | _ => none
  | .indexAddrA n sz x i => match ev i with
    | .int _ m => if 0 ≤ m ∧ m < n then (match idxAA sz (ev x) m.toNat with
      | some v => some (v, [])
      | none => none) else none
    | _ => none
  | .indexA agg n sz x i => match ev i, ev x with
    | .int _ m, .agg cs => if 0 ≤ m ∧ m < n then (match takeE agg sz cs (m.toNat * sz) with
      | some v => some (v, [])
      | none => none) else none
    | _, _ => none
  | .indexS x i => match ev i, ev x with
    | .int _ m, .str s => if 0 ≤ m then (match s.data.toList[m.toNat]? with
      | some b => some (.int .u8 b.toNat, [])
      | none => none) else none
    | _, _ => none
  | .extract x i => match ev x with
    | .tup vs => match vs[i]? with
      | some v => some (v, [])
      | none => none
    | _ => none
  | .len st x => match lenP st (ev x) with
    | some n => some (.int .i64 n, [])
    | none => none
  | .lenK n => some (.int .i64 n, [])
  | .minmax mx xs => match xs.map ev with
    | .int k n :: r => match foldMM mx n r with
      | some m => some (.int k m, [])
      | none => none
    | _ => none
  | .append k sz bytes mode s x => match srcP lk mode (ev x) with
    | some (news, ws) => if appOk k mode sz (ev s) news ws then (match appP lk k sz bytes (ev s) news with
      | some (v, ws') => some (v, ws ++ ws')
      | none => none) else none
    | none => none
  | .appendF k sz bytes s x => match srcP lk 2 (ev x) with
    | some (news, ws) => if appOk k 2 sz (ev s) news ws then (match appP lk k sz bytes (ev s) news with
      | some (v, ws') => frzA sz v ws'
      | none => none) else none
    | none => none
  | .makeMap k => some (.mapv k ((lk k).1 + 1), [(k, ((lk k).1 + 1, .mp false [] []))])
  | .mapUpd kt m x v => mapUpdP lk kt (ev m) (ev x) (ev v)
  | .lookup kt ok z m x => lookupP lk kt ok z (ev m) (ev x)
  | .lookupT k kt sz z m x => lookTP lk k kt sz z (ev m) (ev x)
  | .mapEntry k kt sz z m x => mapEntryP lk k kt sz z (ev m) (ev x)
  | .entryStore m i v => entryStP lk (ev m) (ev i) (ev v)
  | .mkfn f a b => if (a.map ev).all one = true ∧ (b.map ev).all one = true then some (.fn f (a.map ev) (b.map ev), []) else none
  | .copy sz d s => match srcP lk 0 (ev s) with
    | some (news, ws) => copyP lk sz (ev d) news ws
    | none => none
  | .allocA k zs => if zs.all pureC = true ∧ 0 < zs.length ∧ zs.length ≤ 1000000 then some (.eptr k ((lk k).1 + 1) zs.length 1 0 0, [(k, ((lk k).1 + 1, .arr 1 0 false zs))]) else none
  | .boxA k x => if (ecells (ev x)).all pureC = true ∧ 0 < (ecells (ev x)).length ∧ (ecells (ev x)).length ≤ 1000000 then some (.eptr k ((lk k).1 + 1) (ecells (ev x)).length 1 0 0, [(k, ((lk k).1 + 1, .arr 1 0 false (ecells (ev x))))]) else none
  | .loadA n a => match loadAP lk n (ev a) with
    | some v => some (v, [])
    | none => none
  | .storeA n a v => match storeAP lk n (ev a) (ev v) with
    | some ws => some (.undef, ws)
    | none => none
  | .sliceA n x lo hi => match sliceAP n (ev x) (lo.map ev) (hi.map ev) with
    | some v => some (v, [])
    | none => none
  | .eqS neg ts x y => match ev x, ev y with
    | .agg l, .agg m => match eqCs ts l m with
      | some b => some (.bool (neg != b), [])
      | none => none
    | _, _ => none
  | .eqNil neg x y => match nilP (ev x), ev y with
    | some b, .nils => some (.bool (neg != b), [])
    | _, _ => none
  | .convStr x => match srcP lk 2 (ev x) with
    | some (news, _) => match bytesL news with
      | some bs => some (.str ⟨⟨bs⟩⟩, [])
      | none => none
    | none => none
  | .call .. | .callv .. | .cally .. | .stuck => none
/-! ### calls: what is passed is frozen as long as the call lasts; what comes back is the caller's own -/
def fzL (lk : Look) : PV → PV
  | .own k g gl s o l => match lk k with
    | (g', .arr s' _ _ es) => if g' = g ∧ es.length = gl ∧ s' = s ∧ o + l ≤ gl ∧ es.all noRefE = true then .slc (((es.drop o).take l).map frzE) else .undef
    | _ => .undef
  | .nils => .slc []
  | .bool b => .bool b
  | .int k n => .int k n
  | .str t => .str t
  | .lit v => .lit v
  | .slc es => .slc es
  | .mlit ks vs => .mlit ks vs
  | _ => .undef
def fzC (lk : Look) : PV → PV
  | .lst es => if (es.map (fzL lk)).all pureC then .slc (es.map (fzL lk)) else .undef
  | .own k g gl s o l => match lk k with
    | (g', .arr s' _ _ es) => if g' = g ∧ es.length = gl ∧ s' = s ∧ o + l ≤ gl ∧ es.all noRefE = true then .slc (((es.drop o).take l).map frzE) else .undef
    | _ => .undef
  | .nown k g ver i j o l => match lk k with
    | (g', .arr _ ver' _ es) => if g' = g ∧ ver' = ver then (match es[i]? with
      | some e => match (ecells e)[j]? with
        | some (.uslc ns) => if o = 0 ∧ l ≤ ns.length then .slc (ns.take l) else .undef
        | _ => .undef
      | none => .undef) else .undef
    | _ => .undef
  | .nils => .slc []
  | .bool b => .bool b
  | .int k n => .int k n
  | .str t => .str t
  | .lit v => .lit v
  | .slc es => .slc es
  | .mlit ks vs => .mlit ks vs
  | _ => .undef
def fzV (lk : Look) : PV → PV
  | .agg cs => .agg (cs.map (fzC lk))
  | c => fzC lk c
/-- does a value lead into arrays of the call's own? -/
def hasOwnL (lk : Look) : PV → Bool
  | .own k _ _ _ _ _ => match (lk k).2 with
    | .arr _ _ true _ => false
    | _ => true
  | _ => false
def hasOwnC (lk : Look) : PV → Bool
  | .own k _ _ _ _ _ => match (lk k).2 with
    | .arr _ _ true _ => false
    | _ => true
  | .nown .. => true
  | .mapv k _ => match (lk k).2 with
    | .mp true _ _ => false
    | _ => true
  | .lst es => es.any (hasOwnL lk)
  | _ => false
def hasOwn (lk : Look) (v : PV) : Bool := (ecells v).any (hasOwnC lk)
/-- nothing in it may be shared -/
def noS0 : PV → Bool
  | .slc _ | .uslc _ | .mlit _ _ => false
  | _ => true
def noS1 : PV → Bool
  | .slc _ | .mlit _ _ => false
  | .uslc es => es.all fun e => (ecells e).all noS0
  | _ => true
def noS2 : PV → Bool
  | .slc _ | .mlit _ _ => false
  | .uslc es => es.all fun e => (ecells e).all noS1
  | _ => true
def comps : PV → List PV
  | .tup vs => vs
  | c => [c]
def noS (r : PV) : Bool := (comps r).all fun c => (ecells c).all noS2
/-- a cell of a result; kz: the number of the array that it becomes, and its elements' size -/
def thC (kz : Nat × Nat) (gen : Nat → Nat) : PV → PV
  | .uslc es => .own kz.1 (gen kz.1) es.length kz.2 0 es.length
  | .nils => .nils
  | .bool b => .bool b
  | .int k n => .int k n
  | .str t => .str t
  | .lit v => .lit v
  | .slc es => .slc es
  | .mlit ks vs => .mlit ks vs
  | _ => .undef
def thCs (ks : Nat → Nat × Nat) (gen : Nat → Nat) : Nat → List PV → List PV
  | _, [] => []
  | p, c :: cs => thC (ks p) gen c :: thCs ks gen (p + 1) cs
def thComp (ks : Nat → Nat × Nat) (gen : Nat → Nat) (p : Nat) : PV → PV
  | .agg cs => .agg (thCs ks gen p cs)
  | c => thC (ks p) gen c
def thComps (ks : Nat → Nat × Nat) (gen : Nat → Nat) : Nat → List PV → List PV
  | _, [] => []
  | p, c :: cs => thComp ks gen p c :: thComps ks gen (p + (ecells c).length) cs
def thV (ks : Nat → Nat × Nat) (gen : Nat → Nat) : PV → PV
  | .tup vs => .tup (thComps ks gen 0 vs)
  | c => thComp ks gen 0 c
/-- all cells of a result -/
def rcells (r : PV) : List PV := (comps r).flatMap ecells
def thWs (ks : Nat → Nat × Nat) (gen : Nat → Nat) : Nat → List PV → List (Nat × Row)
  | _, [] => []
  | p, .uslc es :: cs => ((ks p).1, (gen (ks p).1, .arr (ks p).2 0 false es)) :: thWs ks gen (p + 1) cs
  | p, _ :: cs => thWs ks gen (p + 1) cs
def nodupN : List Nat → Bool
  | [] => true
  | k :: l => !l.contains k && nodupN l
def upd (h : Heap) (ws : List (Nat × Row)) : Heap := ws.foldl (fun h x => h.set x.1 x.2) h

/-- the table of objects, some of them hidden -/
def lkOf (h : Heap) (hide : List Nat) : Look := fun k => if hide.contains k then (0, .dead) else h.getD k (0, .dead)
/-- a result is pure but for its own arrays -/
def rOk (r : PV) : Bool := (rcells r).all fun c => match c with
  | .uslc es => es.all noRefE
  | _ => true

/-! ### statements -/
structure XSt where
  loc : List PV
  vars : List PV
  heap : Heap
def evO (loc vars : List PV) : Opd → PV
  | .l i => loc.getD i .undef
  | .v i => vars.getD i .undef
  | .c p => p
def setO (vars : List PV) (k : Option Nat) (v : PV) : List PV :=
  match k with
  | some k => vars.set k v
  | none => vars
/-- is the operation carried out? -/
def gdO (loc vars : List PV) : Option (Opd × Bool) → Option Bool
  | none => some true
  | some (o, b) => match evO loc vars o with
    | .bool c => some (c == b)
    | .tup [] => some false
    | _ => none
def ksF (ks : List (Nat × Nat)) (p : Nat) : Nat × Nat := ks.getD p (0, 0)
def genF (lk : Look) (k : Nat) : Nat := (lk k).1 + 1
def callOk (n : Nat) (ks : List (Nat × Nat)) (own : Bool) (r : PV) : Bool :=
  let sites := (thWs (ksF ks) (fun _ => 0) 0 (rcells r)).map (·.1)
  rOk r && nodupN sites && sites.all (fun k => Nat.blt k n && ((ks.filter (·.2 != 0)).map (·.1)).contains k) && (!own || noS r)
inductive XExit where
  | normal
  | exit (id : Nat)
  | ret
/-- what a round of a loop over a function does: its arguments, memory, what follows -/
abbrev YT := List PV → Heap → (Option XExit → Heap → Prop) → Prop
/-- what calls give: of a function that is passed frozen memory; of a function value that shares the caller's memory (the rows that it writes); of one that may be a loop's body; of a function that is looped over -/
structure FNs where
  fn : FuncId → List Nat → List PV → PV → Prop
  fi : PV → List PV → Heap → PV → List (Nat × Row) → Prop
  fy : PV → List PV → List PV → Heap → (PV → List PV → Heap → Prop) → Prop
  it : PV → YT → Heap → (Option XExit → Heap → Prop) → Prop
  my : ∀ {v a vs h} {K K' : PV → List PV → Heap → Prop}, (∀ r vs h, K r vs h → K' r vs h) → fy v a vs h K → fy v a vs h K'
  mi : ∀ {v Y h} {K K' : Option XExit → Heap → Prop}, (∀ p h, K p h → K' p h) → it v Y h K → it v Y h K'
/-- the operations one after the other; FN: what calls give -/
def xrun (FN : FNs) : List XOper → XSt → (XSt → Prop) → Prop
  | [], st, Q => Q st
  | x :: xs, st, Q => match gdO st.loc st.vars x.guard with
    | none => False
    | some false => xrun FN xs ⟨st.loc ++ [.tup []], setO st.vars x.var (.tup []), st.heap⟩ Q
    | some true => match x.op with
      | .call f args ks _ => ∃ r, FN.fn f (ks.map (·.2)) (args.map fun a => fzV (lkOf st.heap x.hide) (evO st.loc st.vars a)) r ∧
          callOk st.heap.length ks ((args.map (evO st.loc st.vars)).any (hasOwn (lkOf st.heap x.hide))) r = true ∧
          xrun FN xs ⟨st.loc ++ [thV (ksF ks) (genF (lkOf st.heap x.hide)) r], setO st.vars x.var (thV (ksF ks) (genF (lkOf st.heap x.hide)) r), upd st.heap (thWs (ksF ks) (genF (lkOf st.heap x.hide)) 0 (rcells r))⟩ Q
      | .callv f args => ∃ r ws, FN.fi (evO st.loc st.vars f) (args.map (evO st.loc st.vars)) st.heap r ws ∧ xrun FN xs ⟨st.loc ++ [r], setO st.vars x.var r, upd st.heap ws⟩ Q
      | .cally f args => FN.fy (evO st.loc st.vars f) (args.map (evO st.loc st.vars)) st.vars st.heap fun r vs h => h.length = st.heap.length ∧ xrun FN xs ⟨st.loc ++ [r], setO vs x.var r, h⟩ Q
      | op => match aop (evO st.loc st.vars) (lkOf st.heap x.hide) op with
        | some (p, ws) => xrun FN xs ⟨st.loc ++ [p], setO st.vars x.var p, upd st.heap ws⟩ Q
        | none => False

abbrev XPost := XExit → List PV → Heap → Prop
def xthen (K : List PV → Heap → Prop) (Q : XPost) : XPost
  | .normal, vs, h => K vs h
  | e, vs, h => Q e vs h
def xin (id : Nat) (Q : XPost) : XPost
  | .exit i, vs, h => if i = id then Q .normal vs h else Q (.exit i) vs h
  | e, vs, h => Q e vs h
/-- at most n rounds -/
def xloop (body : XPost → List PV → Heap → Prop) (Q : XPost) : Nat → List PV → Heap → Prop
  | 0, _, _ => False
  | n + 1, vs, h => body (xthen (xloop body Q n) Q) vs h
/-- how many objects it may make -/
def sitesOf : XOp → Nat
  | .alloc .. | .box .. | .mkarr .. | .makeSlice .. | .append .. | .appendF .. | .allocA .. | .boxA .. | .makeMap .. | .mapEntry .. | .lookupT .. => 1
  | .call _ _ ks _ => (ks.filter (·.2 != 0)).length
  | _ => 0
def siteNos : XOp → List Nat
  | .alloc k _ | .box k _ | .mkarr k _ _ _ | .makeSlice k _ _ _ _ _ | .append k _ _ _ _ _ | .appendF k _ _ _ _ | .allocA k _ | .boxA k _ | .makeMap k | .mapEntry k _ _ _ _ _ | .lookupT k _ _ _ _ _ => [k]
  | .call _ _ ks _ => (ks.filter (·.2 != 0)).map (·.1)
  | _ => []
def sitesIn (n : Nat) (xs : List XOper) : Bool := xs.all fun x => (siteNos x.op).all fun k => Nat.blt k n && !x.hide.contains k
/-! a state is settled: what is not live is forgotten, objects are numbered anew -/
def sAdd (ks : List Nat) (k : Nat) : List Nat := if ks.contains k then ks else ks ++ [k]
def sCell (ks : List Nat) : PV → List Nat
  | .own k _ _ _ _ _ => sAdd ks k
  | .ptr k _ _ => sAdd ks k
  | .eptr k _ _ _ _ _ => sAdd ks k
  | .mapv k _ => sAdd ks k
  | _ => ks
def sCells (ks : List Nat) (cs : List PV) : List Nat := cs.foldl sCell ks
def sVars (vs : List PV) (live : List Nat) : List Nat := live.foldl (fun ks v => sCells ks (ecells (vs.getD v .undef))) []
def sObj (h : Heap) (a : List Nat) (k : Nat) : List Nat := match (h.getD k (0, .dead)).2 with
  | .var cs => sCells a cs
  | _ => a
def sKs (live : List Nat) (vs : List PV) (h : Heap) : List Nat := (sVars vs live).foldl (sObj h) (sVars vs live)
def ren (ks : List Nat) (c0 : Nat) (h : Heap) : PV → PV
  | .own k g gl s o l => match ks.idxOf? k with
    | some i => .own (c0 + i) (if (h.getD k (0, .dead)).1 = g then 1 else 0) gl s o l
    | none => .undef
  | .ptr k g o => match ks.idxOf? k with
    | some i => .ptr (c0 + i) (if (h.getD k (0, .dead)).1 = g then 1 else 0) o
    | none => .undef
  | .eptr k g gl s i j => match ks.idxOf? k with
    | some n => .eptr (c0 + n) (if (h.getD k (0, .dead)).1 = g then 1 else 0) gl s i j
    | none => .undef
  | .bool b => .bool b
  | .int k n => .int k n
  | .str s => .str s
  | .lit v => .lit v
  | .nils => .nils
  | .slc es => .slc es
  | .mapv k g => match ks.idxOf? k with
    | some i => .mapv (c0 + i) (if (h.getD k (0, .dead)).1 = g then 1 else 0)
    | none => .undef
  | .mlit us vs => .mlit us vs
  | _ => .undef
def renV (ks : List Nat) (c0 : Nat) (h : Heap) : PV → PV
  | .agg cs => .agg (cs.map (ren ks c0 h))
  | c => ren ks c0 h c
def renO (ks : List Nat) (c0 : Nat) (h : Heap) : Ob → Ob
  | .var cs => if (cs.map (ren ks c0 h)).all one then .var (cs.map (ren ks c0 h)) else .dead
  | .arr sz _ fr es => if es.all noRefE then .arr sz 0 fr es else .dead
  | .mp fr us vs => if vs.all mvS then .mp fr us vs else .dead
  | .dead => .dead
def sRow (ks : List Nat) (c0 : Nat) (h : Heap) (p : Nat) : Row := if p < c0 then (0, .dead) else match ks[p - c0]? with
  | some k => (1, renO ks c0 h (h.getD k (0, .dead)).2)
  | none => (0, .dead)
def sGen (f : Nat → Row) : Nat → Nat → Heap
  | 0, _ => []
  | n + 1, p => f p :: sGen f n (p + 1)
def sHeap (ks : List Nat) (c0 : Nat) (h : Heap) : Heap := sGen (sRow ks c0 h) h.length 0
def sVs (live ks : List Nat) (c0 : Nat) (h : Heap) : Nat → List PV → List PV
  | _, [] => []
  | i, v :: vs => (if live.contains i then renV ks c0 h v else .undef) :: sVs live ks c0 h (i + 1) vs
def sOk (ks : List Nat) (c0 : Nat) (h : Heap) : Bool := nodupN ks && Nat.ble (c0 + ks.length) h.length
def settled (live : List Nat) (c0 : Nat) (vs : List PV) (h : Heap) (K : List PV → Heap → Prop) : Prop :=
  sOk (sKs live vs h) c0 h = true ∧ K (sVs live (sKs live vs h) c0 h 0 vs) (sHeap (sKs live vs h) c0 h)
/-- what leads to a frozen array: read as frozen memory -/
def frzR (h : Heap) : PV → PV
  | .own k g gl s o l => match h.getD k (0, .dead) with
    | (g', .arr s' _ fr es) => if g' = g ∧ es.length = gl ∧ s' = s ∧ o = 0 ∧ l = gl ∧ fr = true ∧ es.all noRefE = true then .slc (es.map frzE) else .own k g gl s o l
    | _ => .own k g gl s o l
  | c => c
/-- an array frozen: whole, or the arrays in its elements; of a variable: what leads to frozen arrays -/
def frzO (h : Heap) (r : Bool) : Ob → Ob
  | .arr sz ver fr es => if es.all noRefE then .arr sz (ver + 1) (fr || r) (es.map frzE) else .arr sz ver fr es
  | .var cs => .var (cs.map (frzR h))
  | .mp fr us vs => if vs.all mvS then .mp (fr || r) us (vs.map frzC) else .mp fr us vs
  | .dead => .dead
/-- the array in an array's last element is taken out: it stands for itself as k3 as long as it is not put in again -/
def outH (k1 k3 : Nat) (h : Heap) : Heap := match h.getD k1 (0, .dead), h.getD k3 (0, .dead) with
  | (g, .arr s ver fr es), (g3, .dead) => if s = 1 ∧ fr = false ∧ k1 ≠ k3 ∧ k1 < h.length ∧ k3 < h.length then (match es.getLast? with
    | some (.uslc ns) => if 0 < ns.length ∧ szOk 1 ns = true then ((h.set k1 (g, .arr 1 (ver + 1) false (es.dropLast ++ [.own k3 (g3 + 1) ns.length 1 0 ns.length]))).set k3 (g3 + 1, .arr 1 0 false ns)) else h
    | _ => h) else h
  | _, _ => h
def frzH : List (Nat × Bool) → Heap → Heap
  | [], h => h
  | x :: l, h => frzH l (if 1000 ≤ x.1 then outH (x.1 / 1000 - 1) (x.1 % 1000) h else h.set x.1 ((h.getD x.1 (0, .dead)).1, frzO h x.2 (h.getD x.1 (0, .dead)).2))
/-- sz = 0: what a variable leads to is read as frozen, where it is; else: a nil slice is taken as an array of no elements -/
def matP (v : Nat) (c : Option Nat) (k sz : Nat) (vs : List PV) (h : Heap) : List PV × Heap :=
  if sz = 0 then (vs.set v (frzR h (vs.getD v .undef)), h) else match h[k]? with
  | some (g, .dead) => if 0 < sz then (match c, vs.getD v .undef with
    | none, .nils => (vs.set v (.own k (g + 1) 0 sz 0 0), h.set k (g + 1, .arr sz 0 false []))
    | some j, .ptr k2 g2 0 => match h[k2]? with
      | some (g3, .var cs) => if g3 = g2 then (match cs[j]? with
        | some .nils => (vs, (h.set k (g + 1, .arr sz 0 false [])).set k2 (g3, .var (cs.set j (.own k (g + 1) 0 sz 0 0))))
        | _ => (vs, h)) else (vs, h)
      | _ => (vs, h)
    | _, _ => (vs, h)) else (vs, h)
  | _ => (vs, h)
/-- without what freezes -/
def stripF : XCode → XCode
  | .seq a b => .seq (stripF a) (stripF b)
  | .cond c a b => .cond c (stripF a) (stripF b)
  | .block id b => .block id (stripF b)
  | .loop b => .loop (stripF b)
  | .loopS l c b => .loopS l c (stripF b)
  | .frz _ b => stripF b
  | .rfor g ps a b => .rfor g ps (stripF a) (stripF b)
  | c => c
def strip : XCode → XCode
  | .seq a b => .seq (strip a) (strip b)
  | .cond c a b => .cond c (strip a) (strip b)
  | .block id b => .block id (strip b)
  | .loop b => .loop (strip b)
  | .loopS _ _ b => .loop (strip b)
  | .frz _ b => strip b
  | .mat _ _ _ _ b => strip b
  | .rfor g ps a b => .rfor g ps (stripF a) (stripF b)
  | c => c
/-- the loop's variables set -/
def setPs : List PV → List (Option Nat) → List PV → List PV
  | vs, p :: ps, v :: l => setPs (setO vs p v) ps l
  | vs, _, _ => vs
def pend : XExit → Option XExit
  | .normal => none
  | e => some e
def unp : Option XExit → XExit
  | none => .normal
  | some e => e
/-- where the assignment ends -/
def xasg (K : List PV → Heap → Prop) : XPost
  | .normal, vs, h => K vs h
  | _, _, _ => False
def xwp (FN : FNs) : XCode → XPost → List PV → Heap → Prop
  | .skip, Q, vs, h => Q .normal vs h
  | .reg xs, Q, vs, h => sitesIn h.length xs = true ∧ xrun FN xs ⟨[], vs, h⟩ (fun st => Q .normal st.vars st.heap)
  | .seq a b, Q, vs, h => xwp FN a (xthen (xwp FN b Q) Q) vs h
  | .cond c a b, Q, vs, h => match evO [] vs c with
    | .bool true => xwp FN a Q vs h
    | .bool false => xwp FN b Q vs h
    | _ => False
  | .block id b, Q, vs, h => xwp FN b (xin id Q) vs h
  | .loop b, Q, vs, h => ∃ n, xloop (xwp FN b) Q n vs h
  | .loopS live c0 b, Q, vs, h => ∃ n, xloop (fun Q vs h => settled live c0 vs h (xwp FN b Q)) Q n vs h
  | .frz l b, Q, vs, h => xwp FN b Q vs (frzH l h)
  | .mat v c k sz b, Q, vs, h => xwp FN b Q (matP v c k sz vs h).1 (matP v c k sz vs h).2
  | .rfor g ps a b, Q, vs, h => FN.it (evO [] vs g) (fun args h1 k => args.length = ps.length ∧ xwp FN a (xasg fun vs h2 => xwp FN b (fun e _ h3 => k (pend e) h3) vs h2) (setPs vs ps args) h1) h fun p h' => Q (unp p) vs h'
  | .exit id, Q, vs, h => Q (.exit id) vs h
  | .ret, Q, vs, h => Q .ret vs h
/-! results -/
def rvC (lk : Look) : PV → PV
  | .own k g gl s o l => match lk k with
    | (g', .arr s' _ fr es) => if g' = g ∧ es.length = gl ∧ s' = s ∧ o = 0 ∧ l = gl ∧ es.all noRefE = true then (if fr then .slc (es.map frzE) else .uslc es) else .undef
    | _ => .undef
  | .nils => .nils
  | .bool b => .bool b
  | .int k n => .int k n
  | .str t => .str t
  | .lit v => .lit v
  | .slc es => .slc es
  | .mapv k g => match lk k with
    | (g', .mp true ks vs) => if g' = g ∧ vs.all (fun c => pureC c || fn0 c) = true then .mlit ks vs else .undef
    | _ => .undef
  | .mlit ks vs => .mlit ks vs
  | _ => .undef
def rvE (lk : Look) : PV → PV
  | .agg cs => .agg (cs.map (rvC lk))
  | c => rvC lk c
def rvV (lk : Look) : PV → PV
  | .tup vs => .tup (vs.map (rvE lk))
  | c => rvE lk c
/-- the numbers of the arrays that go out -/
def outIds (p : PV) : List Nat := ((comps p).flatMap ecells).filterMap fun c => match c with
  | .own k _ _ _ _ _ => some k
  | _ => none
/-- their elements' sizes are those of the result's type -/
def szsOk (szs : List Nat) : Nat → List PV → Bool
  | _, [] => true
  | q, .own _ _ _ s _ _ :: cs => szs.getD q 0 == s && szsOk szs (q + 1) cs
  | q, _ :: cs => szsOk szs (q + 1) cs
def resV (lk : Look) (vars : List PV) : Nat × Option (Bool × Nat) → Option PV
  | (k, none) => some (vars.getD k .undef)
  | (k, some (g, s)) => if g then loadAP lk s (vars.getD k .undef) else loadP lk g s (vars.getD k .undef)
def resVs (lk : Look) (vars : List PV) : List (Nat × Option (Bool × Nat)) → Option (List PV)
  | [] => some []
  | r :: rs => match resV lk vars r, resVs lk vars rs with
    | some v, some vs => some (v :: vs)
    | _, _ => none
def oneV : List PV → PV
  | [v] => v
  | vs => .tup vs
/-- what a body's end gives -/
def xret (rs : List (Nat × Option (Bool × Nat))) (szs : List Nat) (r : PV) : XPost := fun e vs h =>
  (match e with | .exit _ => False | _ => True) ∧ ∃ l, resVs (lkOf h []) vs rs = some l ∧ nodupN (outIds (oneV l)) = true ∧ szsOk szs 0 ((comps (oneV l)).flatMap ecells) = true ∧ rvV (lkOf h []) (oneV l) = r
end Go.Proofs.Ytgdcogoacnghkaa.Am
/-
  How the plain machine's values lie in memory, and that they stay as they lie.
-/
namespace Go.Proofs.Ytgdcogoacnghkaa.Am
set_option linter.unusedSimpArgs false
set_option linter.unusedVariables false
set_option linter.unusedSectionVars false
open Go.RowKit

/-- cells, or a map -/
def isD : Obj → Bool
  | .cells .. | .map .. => true
  | _ => false
/-- below B the world is as it was; what is neither cells nor a map lies as it lay -/
structure Bl (B : Nat) (w w' : World) : Prop where
  bl : Below B w w'
  same : ∀ (k : Nat) (o : Obj), w.heap[k]? = some o → isD o = false → w'.heap[k]? = some o
section
variable {B : Nat} {a b c w w' : World}
theorem Bl.refl (B : Nat) (w : World) : Bl B w w := ⟨Below.refl _ _, fun _ _ h _ => h⟩
theorem Bl.trans (h : Bl B a b) (k : Bl B b c) : Bl B a c := ⟨h.bl.trans k.bl, fun i o h1 h2 => k.same i o (h.same i o h1 h2) h2⟩
theorem Bl.mono {B' : Nat} (h : Bl B a b) (hB : B' ≤ B) : Bl B' a b := ⟨h.bl.mono hB, h.same⟩
theorem Bl.size (h : Bl B a b) : a.heap.size ≤ b.heap.size := h.bl.size
theorem Bl.block (h : Bl B a b) : ∀ k, k < B → b.heap[k]? = a.heap[k]? := h.bl.block
theorem Bl.drew (h : Bl B a w) : Bl B a w.drew := h.trans ⟨(Below.refl B w).drew, fun _ _ h _ => h⟩
theorem Bl.alloc (h : Bl B a w) (hB : B ≤ w.heap.size) (o : Obj) : Bl B a (w.alloc o) :=
  h.trans ⟨(Below.refl B w).alloc hB o, fun k x h1 _ => (Below.heap_alloc _ _ _ (Array.getElem?_eq_some_iff.1 h1).1).trans h1⟩
end
/-- a block of cells, or a map's -/
def isC (w : World) (b : Nat) : Prop := ∃ o, w.heap[b]? = some o ∧ isD o = true
theorem isC.lt {w : World} {b : Nat} (h : isC w b) : b < w.heap.size := by obtain ⟨_, h, _⟩ := h; exact (Array.getElem?_eq_some_iff.1 h).1
theorem isC.eq {w w' : World} {b : Nat} (h : isC w b) (e : w'.heap[b]? = w.heap[b]?) : isC w' b := by obtain ⟨o, h, d⟩ := h; exact ⟨o, e.trans h, d⟩
theorem isC.of {w : World} {b : Nat} {us : Array Value} {T : TypeId} {x : Nat × Nat} (h : w.heap[b]? = some (.cells us T x)) : isC w b := ⟨_, h, rfl⟩
abbrev Key := Nat × Option (Nat × Nat)
abbrev root (k : Nat) : Key := (k, none)
abbrev nest (k i j : Nat) : Key := (k, some (i, j))
/-- where the objects lie; which of them have a block; how much room they have; the blocks that nobody writes to -/
structure Gh where
  β : Key → Nat
  R : Key → Prop
  γ : Key → Nat
  σ : Key → Nat
  Z : Nat → Prop

def LRep (R : Value → PV → Prop) (vs : Array Value) (cs : List PV) : Prop := vs.size = cs.length ∧ ∀ (i : Nat) c, cs[i]? = some c → ∃ u, vs[i]? = some u ∧ R u c
theorem LRep.mono {R R' : Value → PV → Prop} {vs : Array Value} {cs : List PV} (h : LRep R vs cs) (hr : ∀ v c, R v c → R' v c) : LRep R' vs cs :=
  ⟨h.1, fun i c hc => let ⟨u, h1, h2⟩ := h.2 i c hc; ⟨u, h1, hr _ _ h2⟩⟩

def litOk : Value → Bool
  | .pointer none | .nilFunc | .nilIface | .map none => true
  | _ => false
def D : Nat := 6

def keyV : PV → Option Value
  | .bool b => some (.bool b)
  | .int k n => some (.int k n)
  | .str s => some (.string s)
  | _ => none
/-- a map's keys, each with its number -/
def KeysV (es : Array MapEntry) (ks : List PV) : Prop := es.size = ks.length ∧ ∀ (i : Nat) x, ks[i]? = some x → ∃ e, es[i]? = some e ∧ keyV x = some e.key ∧ e.born = i
def PRep (Z : Nat → Prop) (w : World) : Nat → Value → PV → Prop
  | _, _, .undef => True
  | _, v, .bool b => v = .bool b
  | _, v, .int k n => v = .int k n
  | _, v, .str s => v = .string s
  | _, v, .lit u => v = u ∧ litOk u = true
  | n + 1, v, .slc es => ∃ a c sz, v = .slice a es.length c ∧ es.length ≤ c ∧ c ≤ maxLen ∧ (a = none → c = 0) ∧
      ∀ (i : Nat) e, es[i]? = some e → (ecells e).length = sz ∧ ∃ b o, a = some ⟨b, o, none⟩ ∧ Z b ∧ ∀ (j : Nat) c, (ecells e)[j]? = some c → one c = true ∧ ∃ u, w.cell? ⟨b, o + (i * sz + j), none⟩ = some u ∧ PRep Z w n u c
  | n + 1, v, .agg cs => ∃ vs, v = .agg vs ∧ LRep (PRep Z w n) vs cs
  | _, v, .fn f [] [] => v = .func f #[] #[]
  | n + 1, v, .mlit ks cs => ∃ b es, v = .map (some b) ∧ Z b ∧ w.heap[b]? = some (.map es es.size) ∧ KeysV es ks ∧ ks.length = cs.length ∧ ∀ (i : Nat) c, cs[i]? = some c → ∃ e, es[i]? = some e ∧ PRep Z w n e.val c
  | _, _, _ => False

theorem PRep.mono {Z Z' : Nat → Prop} {w w' : World} (hz : ∀ b, Z b → Z' b) (hw : ∀ b, Z b → w'.heap[b]? = w.heap[b]?) : ∀ {n : Nat} {v : Value} {p : PV}, PRep Z w n v p → PRep Z' w' n v p := by
  intro n
  induction n with
  | zero =>
    intro v p h
    cases p
    case fn f a c => cases a <;> cases c <;> exact h
    all_goals first | exact h | exact (show False from h).elim
  | succ n ih =>
    intro v p h
    cases p
    case fn f a c => cases a <;> cases c <;> exact h
    case mlit ks cs =>
      obtain ⟨b, es, h1, h2, h3, h4, h5, h6⟩ := h
      exact ⟨b, es, h1, hz b h2, by rw [hw b h2]; exact h3, h4, h5, fun i c hc => by obtain ⟨e, h7, h8⟩ := h6 i c hc; exact ⟨e, h7, ih h8⟩⟩
    all_goals first | exact h | skip
    case slc es =>
      obtain ⟨a, c, sz, h1, h2, h3, h4, h5⟩ := h
      refine ⟨a, c, sz, h1, h2, h3, h4, fun i e he => ?_⟩
      obtain ⟨h6, b, o, h7, h8, h9⟩ := h5 i e he
      refine ⟨h6, b, o, h7, hz b h8, fun j c hc => ?_⟩
      obtain ⟨h0, u, h10, h11⟩ := h9 j c hc
      exact ⟨h0, u, by rw [World.cell?_of_block (w := w) (a := ⟨b, _, none⟩) (hw b h8)]; exact h10, ih h11⟩
    case agg cs =>
      obtain ⟨vs, h1, h2⟩ := h
      exact ⟨vs, h1, h2.mono fun _ _ x => ih x⟩
theorem PRep.up {Z : Nat → Prop} {w : World} : ∀ {n : Nat} {v : Value} {p : PV}, PRep Z w n v p → PRep Z w (n + 1) v p := by
  intro n
  induction n with
  | zero =>
    intro v p h
    cases p
    case fn f a c => cases a <;> cases c <;> exact h
    all_goals first | exact h | exact (show False from h).elim
  | succ n ih =>
    intro v p h
    cases p
    case fn f a c => cases a <;> cases c <;> exact h
    case mlit ks cs =>
      obtain ⟨b, es, h1, h2, h3, h4, h5, h6⟩ := h
      exact ⟨b, es, h1, h2, h3, h4, h5, fun i c hc => by obtain ⟨e, h7, h8⟩ := h6 i c hc; exact ⟨e, h7, ih h8⟩⟩
    all_goals first | exact h | skip
    case slc es =>
      obtain ⟨a, c, sz, h1, h2, h3, h4, h5⟩ := h
      refine ⟨a, c, sz, h1, h2, h3, h4, fun i e he => ?_⟩
      obtain ⟨h6, b, o, h7, h8, h9⟩ := h5 i e he
      refine ⟨h6, b, o, h7, h8, fun j c hc => ?_⟩
      obtain ⟨h0, u, h10, h11⟩ := h9 j c hc
      exact ⟨h0, u, h10, ih h11⟩
    case agg cs =>
      obtain ⟨vs, h1, h2⟩ := h
      exact ⟨vs, h1, h2.mono fun _ _ x => ih x⟩

theorem PRep.le {Z : Nat → Prop} {w : World} {n m : Nat} {v : Value} {p : PV} (h : n ≤ m) (hp : PRep Z w n v p) : PRep Z w m v p := by
  induction h with
  | refl => exact hp
  | step _ ih => exact ih.up
/-- a plain value, read through memory that nobody writes to -/
def PR (Z : Nat → Prop) (w : World) (v : Value) (p : PV) : Prop := ∃ n, PRep Z w n v p
theorem PR.mono {Z Z' : Nat → Prop} {w w' : World} (hz : ∀ b, Z b → Z' b) (hw : ∀ b, Z b → w'.heap[b]? = w.heap[b]?) {v : Value} {p : PV} (h : PR Z w v p) : PR Z' w' v p :=
  let ⟨n, hn⟩ := h; ⟨n, hn.mono hz hw⟩
/-- finitely many bounds have one -/
theorem bound_all {Q : Nat → Nat → Prop} (hup : ∀ i n m, n ≤ m → Q i n → Q i m) : ∀ (k : Nat), (∀ i, i < k → ∃ n, Q i n) → ∃ N, ∀ i, i < k → Q i N
  | 0, _ => ⟨0, fun i hi => by omega⟩
  | k + 1, h => by
    obtain ⟨N, hN⟩ := bound_all hup k fun i hi => h i (by omega)
    obtain ⟨n, hn⟩ := h k (by omega)
    refine ⟨max N n, fun i hi => ?_⟩
    by_cases hik : i < k
    · exact hup i _ _ (Nat.le_max_left _ _) (hN i hik)
    · obtain rfl : i = k := by omega
      exact hup i _ _ (Nat.le_max_right _ _) hn
theorem PR.slc_iff {Z : Nat → Prop} {w : World} {v : Value} {es : List PV} : PR Z w v (.slc es) ↔ ∃ a c sz, v = .slice a es.length c ∧ es.length ≤ c ∧ c ≤ maxLen ∧ (a = none → c = 0) ∧
      ∀ (i : Nat) e, es[i]? = some e → (ecells e).length = sz ∧ ∃ b o, a = some ⟨b, o, none⟩ ∧ Z b ∧ ∀ (j : Nat) c, (ecells e)[j]? = some c → one c = true ∧ ∃ u, w.cell? ⟨b, o + (i * sz + j), none⟩ = some u ∧ PR Z w u c := by
  constructor
  · rintro ⟨n, hp⟩
    cases n with
    | zero => unfold PRep at hp; exact hp.elim
    | succ n =>
      unfold PRep at hp
      obtain ⟨a, c, sz, h1, h2, h3, h4, h5⟩ := hp
      refine ⟨a, c, sz, h1, h2, h3, h4, fun i e he => ?_⟩
      obtain ⟨h6, b, o, h7, h8, h9⟩ := h5 i e he
      refine ⟨h6, b, o, h7, h8, fun j c hc => ?_⟩
      obtain ⟨h10, u, h11, h12⟩ := h9 j c hc
      exact ⟨h10, u, h11, n, h12⟩
  · rintro ⟨a, c, sz, h1, h2, h3, h4, h5⟩
    have hall : ∃ N, ∀ i, i < es.length → ∀ e, es[i]? = some e → ∀ (j : Nat) c, (ecells e)[j]? = some c → ∀ b o, a = some ⟨b, o, none⟩ → ∃ u, w.cell? ⟨b, o + (i * sz + j), none⟩ = some u ∧ PRep Z w N u c := by
      refine bound_all (Q := fun i N => ∀ e, es[i]? = some e → ∀ (j : Nat) c, (ecells e)[j]? = some c → ∀ b o, a = some ⟨b, o, none⟩ → ∃ u, w.cell? ⟨b, o + (i * sz + j), none⟩ = some u ∧ PRep Z w N u c) ?_ _ ?_
      · intro i n m hnm hq e he j c hc b o ha
        obtain ⟨u, g1, g2⟩ := hq e he j c hc b o ha
        exact ⟨u, g1, g2.le hnm⟩
      · intro i hi
        obtain ⟨e, he⟩ : ∃ e, es[i]? = some e := ⟨es[i], List.getElem?_eq_getElem hi⟩
        obtain ⟨h6, b, o, h7, h8, h9⟩ := h5 i e he
        obtain ⟨N, hN⟩ := bound_all (Q := fun j N => ∀ c, (ecells e)[j]? = some c → ∃ u, w.cell? ⟨b, o + (i * sz + j), none⟩ = some u ∧ PRep Z w N u c) (fun j n m hnm hq c hc => by
          obtain ⟨u, g1, g2⟩ := hq c hc
          exact ⟨u, g1, g2.le hnm⟩) (ecells e).length (fun j hj => by
          obtain ⟨g0, u, g1, n, g2⟩ := h9 j _ (List.getElem?_eq_getElem hj)
          exact ⟨n, fun c hc => by rw [List.getElem?_eq_getElem hj] at hc; cases hc; exact ⟨u, g1, g2⟩⟩)
        refine ⟨N, fun e' he' j c hc b' o' ha => ?_⟩
        rw [he] at he'; cases he'
        rw [h7] at ha; cases ha
        exact hN j (List.getElem?_eq_some_iff.1 hc).1 c hc
    obtain ⟨N, hN⟩ := hall
    refine ⟨N + 1, ?_⟩
    unfold PRep
    refine ⟨a, c, sz, h1, h2, h3, h4, fun i e he => ?_⟩
    obtain ⟨h6, b, o, h7, h8, h9⟩ := h5 i e he
    refine ⟨h6, b, o, h7, h8, fun j c hc => ⟨(h9 j c hc).1, hN i (List.getElem?_eq_some_iff.1 he).1 e he j c hc b o h7⟩⟩

theorem PR.mlit {Z : Nat → Prop} {w : World} {v : Value} {ks cs : List PV} (h : PR Z w v (.mlit ks cs)) : ∃ b es, v = .map (some b) ∧ Z b ∧ w.heap[b]? = some (.map es es.size) ∧ KeysV es ks ∧ ks.length = cs.length ∧ ∀ (i : Nat) c, cs[i]? = some c → ∃ e, es[i]? = some e ∧ PR Z w e.val c := by
  obtain ⟨n, hp⟩ := h
  cases n with
  | zero => unfold PRep at hp; exact hp.elim
  | succ n =>
    unfold PRep at hp
    obtain ⟨b, es, h1, h2, h3, h4, h5, h6⟩ := hp
    exact ⟨b, es, h1, h2, h3, h4, h5, fun i c hc => by obtain ⟨e, h7, h8⟩ := h6 i c hc; exact ⟨e, h7, n, h8⟩⟩
def cellAt (es : List PV) (i j : Nat) : Option PV := (es[i]?).bind fun e => (ecells e)[j]?

/-- an element of a list written out -/
def ERep (G : Gh) (h : Heap) (w : World) (v : Value) : PV → Prop
  | .own k g gl s o l => ∃ a c, v = .slice a l c ∧ l ≤ c ∧ c ≤ maxLen ∧ ((a = none ∧ c = 0) ∨ ∃ b f, a = some ⟨b, f, none⟩) ∧ ∃ gn ob, h[k]? = some (gn, ob) ∧ g ≤ gn ∧
      (gn = g → ∀ sz ver fr es, ob = .arr sz ver fr es → gl ≤ es.length ∧ (es.length = gl → o + l ≤ gl ∧
        (G.R (root k) → ∃ f, a = some ⟨G.β (root k), f, none⟩ ∧ (c = 0 ∨ (sz = s → f = o * s)) ∧ gl ≤ o + c ∧ o + c ≤ G.γ (root k)) ∧ (¬ G.R (root k) → a = none ∧ o = 0)))
  | .nils => v = .slice none 0 0
  | .bool b => v = .bool b
  | .int k n => v = .int k n
  | .str s => v = .string s
  | .lit u => v = u ∧ litOk u = true
  | .slc es => PR G.Z w v (.slc es)
  | .mlit ks vs => PR G.Z w v (.mlit ks vs)
  | _ => False
def VRep (G : Gh) (h : Heap) (w : World) : Nat → Value → PV → Prop
  | _, v, .lst es => ∃ a c, v = .slice (some a) es.length c ∧ es.length ≤ c ∧ c ≤ maxLen ∧ ∀ (i : Nat) e, es[i]? = some e → ∃ b o u, a = ⟨b, o, none⟩ ∧ G.Z b ∧ w.cell? ⟨b, o + i, none⟩ = some u ∧ ERep G h w u e
  | _, v, .any => v.oneCell' = true ∧ v.cells = #[v]
  | _, _, .undef => True
  | _, v, .bool b => v = .bool b
  | _, v, .int k n => v = .int k n
  | _, v, .str s => v = .string s
  | _, v, .lit u => v = u ∧ litOk u = true
  | _, v, .nils => v = .slice none 0 0
  | _, v, .slc es => PR G.Z w v (.slc es)
  | _, v, .mlit ks vs => PR G.Z w v (.mlit ks vs)
  | _, v, .mapv k g => ∃ b, v = .map (some b) ∧ ∃ gn ob, h[k]? = some (gn, ob) ∧ g ≤ gn ∧ (gn = g → ∀ fr ks vs, ob = .mp fr ks vs → b = G.β (root k))
  | _, v, .own k g gl s o l => ∃ a c, v = .slice a l c ∧ l ≤ c ∧ c ≤ maxLen ∧ ((a = none ∧ c = 0) ∨ ∃ b f, a = some ⟨b, f, none⟩) ∧ ∃ gn ob, h[k]? = some (gn, ob) ∧ g ≤ gn ∧
      (gn = g → ∀ sz ver fr es, ob = .arr sz ver fr es → gl ≤ es.length ∧ (es.length = gl → o + l ≤ gl ∧
        (G.R (root k) → ∃ f, a = some ⟨G.β (root k), f, none⟩ ∧ (c = 0 ∨ (sz = s → f = o * s)) ∧ gl ≤ o + c ∧ o + c ≤ G.γ (root k)) ∧ (¬ G.R (root k) → a = none ∧ o = 0)))
  | _, v, .nown k g ver i j o l => ∃ a c, v = .slice a l c ∧ l ≤ c ∧ c ≤ maxLen ∧ ((a = none ∧ c = 0) ∨ ∃ b f, a = some ⟨b, f, none⟩) ∧ ∃ gn ob, h[k]? = some (gn, ob) ∧ g ≤ gn ∧
      (gn = g → ∀ sz vr fr es, ob = .arr sz vr fr es → ver ≤ vr ∧ (vr = ver → ∃ ns, cellAt es i j = some (.uslc ns) ∧ o + l ≤ ns.length ∧
        (G.R (nest k i j) → ∃ f, a = some ⟨G.β (nest k i j), f, none⟩ ∧ (c = 0 ∨ f = o * G.σ (nest k i j))) ∧ (¬ G.R (nest k i j) → a = none ∧ o = 0)))
  | _, v, .ptr k g o => ∃ b, v = .pointer (some ⟨b, o, none⟩) ∧ ∃ gn ob, h[k]? = some (gn, ob) ∧ g ≤ gn ∧ (gn = g → ∀ cs, ob = .var cs → b = G.β (root k))
  | _, v, .eptr k g gl s i j => ∃ b f, v = .pointer (some ⟨b, f, none⟩) ∧ ∃ gn ob, h[k]? = some (gn, ob) ∧ g ≤ gn ∧
      (gn = g → ∀ sz ver fr es, ob = .arr sz ver fr es → gl ≤ es.length ∧ (es.length = gl → b = G.β (root k) ∧ (sz = s → f = i * s + j) ∧ i < gl))
  | _, v, .nptr k g ver s i j m l => ∃ b f, v = .pointer (some ⟨b, f, none⟩) ∧ ∃ gn ob, h[k]? = some (gn, ob) ∧ g ≤ gn ∧
      (gn = g → ∀ sz vr fr es, ob = .arr sz vr fr es → ver ≤ vr ∧ (vr = ver → ∃ ns, cellAt es i j = some (.uslc ns) ∧ b = G.β (nest k i j) ∧ (G.σ (nest k i j) = s → f = m * s + l) ∧ m < ns.length))
  | _, v, .fptr cs => ∃ b o, v = .pointer (some ⟨b, o, none⟩) ∧ G.Z b ∧ ∀ (j : Nat) c, cs[j]? = some c → one c = true ∧ ∃ u, w.cell? ⟨b, o + j, none⟩ = some u ∧ PR G.Z w u c
  | n + 1, v, .agg cs => ∃ vs, v = .agg vs ∧ LRep (VRep G h w n) vs cs
  | n + 1, v, .tup cs => ∃ vs, v = .tuple vs ∧ LRep (VRep G h w n) vs cs
  | n + 1, v, .fn f first cap => ∃ vs us, v = .func f vs us ∧ LRep (VRep G h w n) vs first ∧ LRep (VRep G h w n) us cap
  | _, _, _ => False

/-- an array that lies in a cell, and nowhere else -/
def NRep (G : Gh) (w : World) (key : Key) (u : Value) (ns : List PV) : Prop :=
  (G.R key → ∃ us T f c, u = .slice (some ⟨G.β key, f, none⟩) ns.length c ∧ (c = 0 ∨ f = 0) ∧ ns.length ≤ c ∧ c ≤ G.γ key ∧ G.γ key ≤ maxLen ∧ w.heap[G.β key]? = some (.cells us T (0, 0)) ∧ us.size = G.γ key * G.σ key ∧ 0 < G.σ key ∧
    ∀ (i : Nat) e, ns[i]? = some e → (ecells e).length = G.σ key ∧ ∀ (j : Nat) c, (ecells e)[j]? = some c → one c = true ∧ ∃ v, us[i * G.σ key + j]? = some v ∧ PR G.Z w v c) ∧
  (¬ G.R key → u = .slice none 0 0 ∧ ns = [])
def CRep (G : Gh) (h : Heap) (w : World) (k i j : Nat) (u : Value) : PV → Prop
  | .uslc ns => NRep G w (nest k i j) u ns
  | c => one c = true ∧ VRep G h w D u c
/-- a value that a map holds -/
def MRep (G : Gh) (h : Heap) (w : World) (k i : Nat) (u : Value) : PV → Prop
  | .uslc ns => NRep G w (nest k i 0) u ns
  | c => VRep G h w D u c
def ORep (G : Gh) (h : Heap) (w : World) (k : Nat) : Ob → Prop
  | .dead => True
  | .var cs => G.R (root k) ∧ ∃ us T, w.heap[G.β (root k)]? = some (.cells us T (0, 0)) ∧ LRep (fun v c => one c = true ∧ VRep G h w D v c) us cs
  | .arr sz _ _ es => 0 < sz ∧ es.length ≤ G.γ (root k) ∧ G.γ (root k) ≤ maxLen ∧
      (G.R (root k) → ∃ us T, w.heap[G.β (root k)]? = some (.cells us T (0, 0)) ∧ us.size = G.γ (root k) * sz ∧
        ∀ (i : Nat) e, es[i]? = some e → (ecells e).length = sz ∧ ∀ (j : Nat) c, (ecells e)[j]? = some c → ∃ u, us[i * sz + j]? = some u ∧ CRep G h w k i j u c) ∧
      (¬ G.R (root k) → es = [])
  | .mp _ ks vs => G.R (root k) ∧ ks.length = vs.length ∧ ∃ es, w.heap[G.β (root k)]? = some (.map es es.size) ∧ KeysV es ks ∧ ∀ (i : Nat) c, vs[i]? = some c → ∃ e, es[i]? = some e ∧ MRep G h w k i e.val c
/-- may it still be written? -/
def liveOb : Ob → Bool
  | .var _ => true
  | .arr _ _ fr _ => !fr
  | .mp fr _ _ => !fr
  | .dead => false
def frozenOb : Ob → Bool
  | .arr _ _ fr _ => fr
  | .mp fr _ _ => fr
  | _ => false
structure HRep (B : Nat) (Z0 : Nat → Prop) (G : Gh) (h : Heap) (w : World) : Prop where
  base : B ≤ w.heap.size
  zo : ∀ b, G.Z b → Z0 b ∨ B ≤ b
  zb : ∀ b, G.Z b → isC w b
  lv : ∀ key, G.R key → B ≤ G.β key ∧ isC w (G.β key)
  nz : ∀ k g o, h[k]? = some (g, o) → liveOb o = true → ∀ y, G.R (k, y) → ¬ G.Z (G.β (k, y))
  fz : ∀ k g o, h[k]? = some (g, o) → frozenOb o = true → ∀ y, G.R (k, y) → G.Z (G.β (k, y))
  inj : ∀ key key', G.R key → G.R key' → G.β key = G.β key' → key = key'
  ob : ∀ k g o, h[k]? = some (g, o) → ORep G h w k o

def SameKey (G G' : Gh) (key : Key) : Prop := G'.β key = G.β key ∧ (G'.R key ↔ G.R key) ∧ G'.γ key = G.γ key ∧ G'.σ key = G.σ key
theorem SameKey.refl (G : Gh) (key : Key) : SameKey G G key := ⟨rfl, Iff.rfl, rfl, rfl⟩
def Keep (G G' : Gh) (k : Nat) (ob ob' : Ob) : Prop :=
  (∀ sz ver' fr' es', ob' = .arr sz ver' fr' es' → ∃ ver fr es, ob = .arr sz ver fr es ∧ es.length ≤ es'.length ∧ ver ≤ ver' ∧ (es'.length = es.length → SameKey G G' (root k)) ∧
    (ver' = ver → ∀ i j ns, cellAt es i j = some (.uslc ns) → ∃ ns', cellAt es' i j = some (.uslc ns') ∧ ns.length = ns'.length ∧ SameKey G G' (nest k i j))) ∧
  (∀ cs', ob' = .var cs' → ∃ cs, ob = .var cs ∧ SameKey G G' (root k)) ∧
  (∀ fr' ks' vs', ob' = .mp fr' ks' vs' → ∃ fr ks vs, ob = .mp fr ks vs ∧ SameKey G G' (root k))
structure Ext (G : Gh) (h : Heap) (w : World) (G' : Gh) (h' : Heap) (w' : World) : Prop where
  zz : ∀ b, G.Z b → G'.Z b
  zw : ∀ b, G.Z b → w'.heap[b]? = w.heap[b]?
  kp : ∀ k gn ob, h[k]? = some (gn, ob) → ∃ gn' ob', h'[k]? = some (gn', ob') ∧ gn ≤ gn' ∧ (gn' = gn → Keep G G' k ob ob')

/-- from block m on, what is no cells may have been shut -/
structure Shut (m : Nat) (w w' : World) : Prop where
  os : w'.os = w.os
  tape : w'.tape = w.tape
  output : w'.output = w.output
  size : w'.heap.size = w.heap.size
  cells : ∀ b, isC w b → w'.heap[b]? = w.heap[b]?
  low : ∀ b, b < m → w'.heap[b]? = w.heap[b]?
theorem Shut.refl (m : Nat) (w : World) : Shut m w w := ⟨rfl, rfl, rfl, rfl, fun _ _ => rfl, fun _ _ => rfl⟩
theorem Shut.trans {m : Nat} {a b c : World} (h : Shut m a b) (k : Shut m b c) : Shut m a c :=
  ⟨k.os.trans h.os, k.tape.trans h.tape, k.output.trans h.output, k.size.trans h.size, fun b hb => (k.cells b (hb.eq (h.cells b hb))).trans (h.cells b hb), fun b hb => (k.low b hb).trans (h.low b hb)⟩
theorem Shut.put {m D : Nat} {w : World} {o o' : Obj} (h : w.heap[D]? = some o) (ho : isD o = false) (hm : m ≤ D) : Shut m w (w.putObj D o') :=
  ⟨rfl, rfl, rfl, by simp, fun b hb => World.putObj_heap_other fun e => (by
    subst e; obtain ⟨x, hc, hd⟩ := hb; rw [h] at hc; cases hc; rw [ho] at hd; cases hd), fun b hb => World.putObj_heap_other (by omega)⟩
/-- what is to be true of memory as long as a body runs; with a ghost -/
structure Anch (B : Nat) where
  m : Nat
  psi : PV → Gh → Heap → World → Prop
  ms : ∀ {g : PV} {G : Gh} {h : Heap} {w : World}, psi g G h w → m ≤ w.heap.size
  step : ∀ {g : PV} {G : Gh} {h : Heap} {w : World} {G' : Gh} {h' : Heap} {w' : World}, psi g G h w → Ext G h w G' h' w' → Bl B w w' → psi g G' h' w'
  shut : ∀ {Z0 : Nat → Prop} {g : PV} {G : Gh} {h : Heap} {w w' : World}, HRep B Z0 G h w → psi g G h w → Shut m w w' → psi g G h w'
theorem Bl.shut {B : Nat} {w0 w w' : World} (hB : B ≤ w0.heap.size) (h : Bl B w0 w) (s : Shut w0.heap.size w w') : Bl B w0 w' :=
  ⟨⟨s.os.trans h.bl.os, s.tape.trans h.bl.tape, s.output.trans h.bl.output, by rw [s.size]; exact h.size, fun k hk => (s.low k (by omega)).trans (h.block k hk)⟩,
    fun k o h1 h2 => (s.low k (Array.getElem?_eq_some_iff.1 h1).1).trans (h.same k o h1 h2)⟩
def Anch.plain (w0 : World) : Anch w0.heap.size := ⟨w0.heap.size, fun _ _ _ w => Bl w0.heap.size w0 w, fun h => h.size, fun h _ b => h.trans b, fun _ h s => h.shut (Nat.le_refl _) s⟩
/-- the calls that are put off are marks of loops over functions alone -/
def DefOk (m : Nat) (ds : List Deferred) (w : World) : Prop := ∃ Ds : List Nat, Ds.Nodup ∧ ds = Ds.map (fun D => { target := .collected D, args := #[] }) ∧ ∀ D ∈ Ds, m ≤ D ∧ w.heap[D]? = some (.deferred (some []))
theorem DefOk.nil {m : Nat} {w : World} : DefOk m [] w := ⟨[], List.nodup_nil, rfl, fun D hD => by cases hD⟩
theorem DefOk.step {m B : Nat} {ds : List Deferred} {w w' : World} (h : DefOk m ds w) (b : Bl B w w') : DefOk m ds w' := by
  obtain ⟨Ds, h1, h2, h3⟩ := h
  exact ⟨Ds, h1, h2, fun D hD => ⟨(h3 D hD).1, b.same D _ (h3 D hD).2 rfl⟩⟩
section
variable {B : Nat} {Z0 : Nat → Prop} {G G' G'' : Gh} {h h' h'' : Heap} {w w' w'' : World}
theorem SameKey.trans {key : Key} (a : SameKey G G' key) (b : SameKey G' G'' key) : SameKey G G'' key :=
  ⟨b.1.trans a.1, b.2.1.trans a.2.1, b.2.2.1.trans a.2.2.1, b.2.2.2.trans a.2.2.2⟩
theorem Keep.refl (k : Nat) (ob : Ob) (hs : SameKey G G' (root k)) (hn : ∀ i j, SameKey G G' (nest k i j)) : Keep G G' k ob ob :=
  ⟨fun sz ver fr es e => ⟨ver, fr, es, e, Nat.le_refl _, Nat.le_refl _, fun _ => hs, fun _ i j ns hc => ⟨ns, hc, rfl, hn i j⟩⟩, fun cs e => ⟨cs, e, hs⟩, fun fr ks vs e => ⟨fr, ks, vs, e, hs⟩⟩
theorem Keep.dead (k : Nat) (ob : Ob) : Keep G G' k ob .dead := ⟨fun _ _ _ _ e => by simp at e, fun _ e => by simp at e, fun _ _ _ e => by simp at e⟩
/-- .. of an array, or a variable -/
theorem Keep.arr {k sz ver : Nat} {fr : Bool} {es : List PV} {ob : Ob} (h : ∀ sz' ver' fr' es', Ob.arr sz ver fr es = .arr sz' ver' fr' es' → ∃ v0 f0 e0, ob = .arr sz' v0 f0 e0 ∧ e0.length ≤ es'.length ∧ v0 ≤ ver' ∧ (es'.length = e0.length → SameKey G G' (root k)) ∧
    (ver' = v0 → ∀ i j ns, cellAt e0 i j = some (.uslc ns) → ∃ ns', cellAt es' i j = some (.uslc ns') ∧ ns.length = ns'.length ∧ SameKey G G' (nest k i j))) : Keep G G' k ob (.arr sz ver fr es) := ⟨h, fun _ e => by simp at e, fun _ _ _ e => by simp at e⟩
theorem Keep.var {k : Nat} {cs : List PV} {ob : Ob} (h : ∃ c0, ob = .var c0 ∧ SameKey G G' (root k)) : Keep G G' k ob (.var cs) := ⟨fun _ _ _ _ e => by simp at e, fun _ _ => h, fun _ _ _ e => by simp at e⟩
theorem Ext.refl : Ext G h w G h w := ⟨fun _ x => x, fun _ _ => rfl, fun k gn ob e => ⟨gn, ob, e, Nat.le_refl _, fun _ => Keep.refl k ob (SameKey.refl _ _) fun _ _ => SameKey.refl _ _⟩⟩
theorem Keep.trans {k : Nat} {a b c : Ob} (x : Keep G G' k a b) (y : Keep G' G'' k b c) : Keep G G'' k a c := by
  refine ⟨fun sz ver fr es e => ?_, fun cs e => ?_, fun fr ks vs e => ?_⟩
  · obtain ⟨ver1, fr1, es1, e1, l1, v1, s1, n1⟩ := y.1 sz ver fr es e
    obtain ⟨ver0, fr0, es0, e0, l0, v0, s0, n0⟩ := x.1 sz ver1 fr1 es1 e1
    refine ⟨ver0, fr0, es0, e0, by omega, by omega, fun hl => (s0 (by omega)).trans (s1 (by omega)), fun hv i j ns hc => ?_⟩
    obtain ⟨ns1, c1, l2, k1⟩ := n0 (by omega) i j ns hc
    obtain ⟨ns0, c0, l3, k0⟩ := n1 (by omega) i j ns1 c1
    exact ⟨ns0, c0, by omega, k1.trans k0⟩
  · obtain ⟨cs1, e1, s1⟩ := y.2.1 cs e
    obtain ⟨cs0, e0, s0⟩ := x.2.1 cs1 e1
    exact ⟨cs0, e0, s0.trans s1⟩
  · obtain ⟨f1, k1, v1, e1, s1⟩ := y.2.2 fr ks vs e
    obtain ⟨f0, k0, v0, e0, s0⟩ := x.2.2 f1 k1 v1 e1
    exact ⟨f0, k0, v0, e0, s0.trans s1⟩
theorem Ext.trans (x : Ext G h w G' h' w') (y : Ext G' h' w' G'' h'' w'') : Ext G h w G'' h'' w'' := by
  refine ⟨fun b hb => y.zz b (x.zz b hb), fun b hb => (y.zw b (x.zz b hb)).trans (x.zw b hb), fun k gn ob e => ?_⟩
  obtain ⟨g1, o1, e1, l1, k1⟩ := x.kp k gn ob e
  obtain ⟨g2, o2, e2, l2, k2⟩ := y.kp k g1 o1 e1
  exact ⟨g2, o2, e2, by omega, fun hg => (k1 (by omega)).trans (k2 (by omega))⟩
theorem own_ext (x : Ext G h w G' h' w') {n : Nat} {v : Value} {k g gl s o l : Nat} (hp : VRep G h w n v (.own k g gl s o l)) : VRep G' h' w' n v (.own k g gl s o l) := by
  unfold VRep at hp ⊢
  obtain ⟨a, c, q1, q2, q3, q4, gn, ob, h1, h2, h3⟩ := hp
  obtain ⟨gn', ob', h4, h5, h6⟩ := x.kp k gn ob h1
  refine ⟨a, c, q1, q2, q3, q4, gn', ob', h4, by omega, fun e sz ver fr es e2 => ?_⟩
  obtain ⟨ver0, fr0, es0, e4, l0, _, e5, _⟩ := (h6 (by omega)).1 sz ver fr es e2
  obtain ⟨h7, h8⟩ := h3 (by omega) sz ver0 fr0 es0 e4
  refine ⟨by omega, fun e3 => ?_⟩
  obtain ⟨a1, a2, a3, a4⟩ := e5 (by omega)
  obtain ⟨b1, b2, b3⟩ := h8 (by omega)
  rw [a1, a2, a3]
  exact ⟨b1, b2, b3⟩
theorem erep_own {n : Nat} {v : Value} {k g gl s o l : Nat} : ERep G h w v (.own k g gl s o l) ↔ VRep G h w n v (.own k g gl s o l) := by cases n <;> (unfold ERep VRep; exact Iff.rfl)
theorem ERep.ext (x : Ext G h w G' h' w') {v : Value} {e : PV} (hp : ERep G h w v e) : ERep G' h' w' v e := by
  cases e
  case own => exact (erep_own (n := 0)).2 (own_ext x ((erep_own (n := 0)).1 hp))
  case slc => unfold ERep at hp ⊢; exact PR.mono x.zz x.zw hp
  case mlit => unfold ERep at hp ⊢; exact PR.mono x.zz x.zw hp
  all_goals (unfold ERep at hp ⊢; exact hp)
theorem VRep.ext (x : Ext G h w G' h' w') : ∀ {n : Nat} {v : Value} {p : PV}, VRep G h w n v p → VRep G' h' w' n v p := by
  have base : ∀ {n : Nat} {v : Value} {p : PV}, (∀ cs, p ≠ .agg cs) → (∀ cs, p ≠ .tup cs) → (∀ f a b, p ≠ .fn f a b) → VRep G h w n v p → VRep G' h' w' n v p := by
    intro n v p na nt nf hp
    cases p
    case slc => unfold VRep at hp ⊢; exact PR.mono x.zz x.zw hp
    case mlit => unfold VRep at hp ⊢; exact PR.mono x.zz x.zw hp
    case mapv k g =>
      unfold VRep at hp ⊢
      obtain ⟨b, q1, gn, ob, h1, h2, h3⟩ := hp
      obtain ⟨gn', ob', h4, h5, h6⟩ := x.kp k gn ob h1
      refine ⟨b, q1, gn', ob', h4, by omega, fun e fr ks vs e2 => ?_⟩
      obtain ⟨f0, k0, v0, e3, a1, _⟩ := (h6 (by omega)).2.2 fr ks vs e2
      rw [a1]; exact h3 (by omega) f0 k0 v0 e3
    case lst es =>
      unfold VRep at hp ⊢
      obtain ⟨a, c, q1, q2, q3, q4⟩ := hp
      refine ⟨a, c, q1, q2, q3, fun i e he => ?_⟩
      obtain ⟨b, o, u, rfl, q5, q6, q7⟩ := q4 i e he
      exact ⟨b, o, u, rfl, x.zz b q5, by rw [World.cell?_of_block (w := w) (a := ⟨b, _, none⟩) (x.zw b q5)]; exact q6, q7.ext x⟩
    case own k g gl s o l =>
      unfold VRep at hp ⊢
      obtain ⟨a, c, q1, q2, q3, q4, gn, ob, h1, h2, h3⟩ := hp
      obtain ⟨gn', ob', h4, h5, h6⟩ := x.kp k gn ob h1
      refine ⟨a, c, q1, q2, q3, q4, gn', ob', h4, by omega, fun e sz ver fr es e2 => ?_⟩
      obtain ⟨ver0, fr0, es0, e4, l0, _, e5, _⟩ := (h6 (by omega)).1 sz ver fr es e2
      obtain ⟨h7, h8⟩ := h3 (by omega) sz ver0 fr0 es0 e4
      refine ⟨by omega, fun e3 => ?_⟩
      obtain ⟨a1, a2, a3, a4⟩ := e5 (by omega)
      obtain ⟨b1, b2, b3⟩ := h8 (by omega)
      rw [a1, a2, a3]
      exact ⟨b1, b2, b3⟩
    case nown k g ver i j o l =>
      unfold VRep at hp ⊢
      obtain ⟨a, c, q1, q2, q3, q4, gn, ob, h1, h2, h3⟩ := hp
      obtain ⟨gn', ob', h4, h5, h6⟩ := x.kp k gn ob h1
      refine ⟨a, c, q1, q2, q3, q4, gn', ob', h4, by omega, fun e sz vr fr es e2 => ?_⟩
      obtain ⟨ver0, fr0, es0, e4, _, l0, _, e5⟩ := (h6 (by omega)).1 sz vr fr es e2
      obtain ⟨h7, h8⟩ := h3 (by omega) sz ver0 fr0 es0 e4
      refine ⟨by omega, fun e3 => ?_⟩
      obtain ⟨ns, hc, b1, b2, b3⟩ := h8 (by omega)
      obtain ⟨ns0, c0, l1, a1, a2, a3, a4⟩ := e5 (by omega) i j ns hc
      rw [a1, a2, a4]
      exact ⟨ns0, c0, by omega, b2, b3⟩
    case ptr k g o =>
      unfold VRep at hp ⊢
      obtain ⟨b, q1, gn, ob, h1, h2, h3⟩ := hp
      obtain ⟨gn', ob', h4, h5, h6⟩ := x.kp k gn ob h1
      refine ⟨b, q1, gn', ob', h4, by omega, fun e cs e2 => ?_⟩
      obtain ⟨cs0, e4, a1, _⟩ := (h6 (by omega)).2.1 cs e2
      rw [a1]
      exact h3 (by omega) cs0 e4
    case eptr k g gl s i j =>
      unfold VRep at hp ⊢
      obtain ⟨b, f, q1, gn, ob, h1, h2, h3⟩ := hp
      obtain ⟨gn', ob', h4, h5, h6⟩ := x.kp k gn ob h1
      refine ⟨b, f, q1, gn', ob', h4, by omega, fun e sz ver fr es e2 => ?_⟩
      obtain ⟨ver0, fr0, es0, e4, l0, _, e5, _⟩ := (h6 (by omega)).1 sz ver fr es e2
      obtain ⟨h7, h8⟩ := h3 (by omega) sz ver0 fr0 es0 e4
      refine ⟨by omega, fun e3 => ?_⟩
      obtain ⟨a1, _⟩ := e5 (by omega)
      rw [a1]
      exact h8 (by omega)
    case nptr k g ver s i j m l =>
      unfold VRep at hp ⊢
      obtain ⟨b, f, q1, gn, ob, h1, h2, h3⟩ := hp
      obtain ⟨gn', ob', h4, h5, h6⟩ := x.kp k gn ob h1
      refine ⟨b, f, q1, gn', ob', h4, by omega, fun e sz vr fr es e2 => ?_⟩
      obtain ⟨ver0, fr0, es0, e4, _, l0, _, e5⟩ := (h6 (by omega)).1 sz vr fr es e2
      obtain ⟨h7, h8⟩ := h3 (by omega) sz ver0 fr0 es0 e4
      refine ⟨by omega, fun e3 => ?_⟩
      obtain ⟨ns, hc, b1, b2, b3⟩ := h8 (by omega)
      obtain ⟨ns0, c0, l1, a1, a2, a3, a4⟩ := e5 (by omega) i j ns hc
      rw [a1, a4]
      exact ⟨ns0, c0, b1, b2, by omega⟩
    case fptr cs =>
      unfold VRep at hp ⊢
      obtain ⟨b, o, h1, h2, h3⟩ := hp
      refine ⟨b, o, h1, x.zz b h2, fun j c hc => ?_⟩
      obtain ⟨h0, u, h4, h5⟩ := h3 j c hc
      exact ⟨h0, u, by rw [World.cell?_of_block (w := w) (a := ⟨b, _, none⟩) (x.zw b h2)]; exact h4, h5.mono x.zz x.zw⟩
    case agg => exact absurd rfl (na _)
    case tup => exact absurd rfl (nt _)
    case fn => exact absurd rfl (nf _ _ _)
    all_goals (unfold VRep at hp ⊢; exact hp)
  intro n
  induction n with
  | zero =>
    intro v p hp
    cases p
    case agg | tup | fn => unfold VRep at hp; exact hp.elim
    all_goals exact base (by simp) (by simp) (by simp) hp
  | succ n ih =>
    intro v p hp
    cases p
    case agg cs => unfold VRep at hp ⊢; obtain ⟨vs, h1, h2⟩ := hp; exact ⟨vs, h1, h2.mono fun _ _ y => ih y⟩
    case tup cs => unfold VRep at hp ⊢; obtain ⟨vs, h1, h2⟩ := hp; exact ⟨vs, h1, h2.mono fun _ _ y => ih y⟩
    case fn f a c => unfold VRep at hp ⊢; obtain ⟨vs, us, h1, h2, h3⟩ := hp; exact ⟨vs, us, h1, h2.mono fun _ _ y => ih y, h3.mono fun _ _ y => ih y⟩
    all_goals exact base (by simp) (by simp) (by simp) hp
theorem VRep.up : ∀ {n : Nat} {v : Value} {p : PV}, VRep G h w n v p → VRep G h w (n + 1) v p := by
  intro n
  induction n with
  | zero =>
    intro v p hp
    cases p
    case agg | tup | fn => unfold VRep at hp; exact hp.elim
    all_goals (unfold VRep at hp ⊢; exact hp)
  | succ n ih =>
    intro v p hp
    cases p
    case agg cs => unfold VRep at hp ⊢; obtain ⟨vs, h1, h2⟩ := hp; exact ⟨vs, h1, h2.mono fun _ _ y => ih y⟩
    case tup cs => unfold VRep at hp ⊢; obtain ⟨vs, h1, h2⟩ := hp; exact ⟨vs, h1, h2.mono fun _ _ y => ih y⟩
    case fn f a c => unfold VRep at hp ⊢; obtain ⟨vs, us, h1, h2, h3⟩ := hp; exact ⟨vs, us, h1, h2.mono fun _ _ y => ih y, h3.mono fun _ _ y => ih y⟩
    all_goals (unfold VRep at hp ⊢; exact hp)
/-- what is of one cell is so at every depth but 0 -/
theorem VRep.cell {n m : Nat} {v : Value} {p : PV} (ha : (∀ cs, p ≠ .agg cs) ∧ (∀ cs, p ≠ .tup cs) ∧ ∀ f a b, p ≠ .fn f a b) (hp : VRep G h w n v p) : VRep G h w m v p := by
  cases p
  case agg => exact absurd rfl (ha.1 _)
  case tup => exact absurd rfl (ha.2.1 _)
  case fn => exact absurd rfl (ha.2.2 _ _ _)
  all_goals (cases n <;> cases m <;> (unfold VRep at hp ⊢; exact hp))
theorem CRep.ext {k i j : Nat} {u : Value} {c : PV} (x : Ext G h w G' h' w') (hk : SameKey G G' (nest k i j)) (hb : G.R (nest k i j) → w'.heap[G.β (nest k i j)]? = w.heap[G.β (nest k i j)]?) (hp : CRep G h w k i j u c) : CRep G' h' w' k i j u c := by
  cases c
  case uslc ns =>
    unfold CRep NRep at hp ⊢
    obtain ⟨a1, a2, a3, a4⟩ := hk
    rw [a1, a2, a3, a4]
    refine ⟨fun r => ?_, hp.2⟩
    obtain ⟨us, T, f, c, h1, h0, h2, h3, h3', h4, h5, h6, h7⟩ := hp.1 r
    refine ⟨us, T, f, c, h1, h0, h2, h3, h3', by rw [hb r]; exact h4, h5, h6, fun i e he => ?_⟩
    obtain ⟨h8, h9⟩ := h7 i e he
    refine ⟨h8, fun j c hc => ?_⟩
    obtain ⟨h10, v, h11, h12⟩ := h9 j c hc
    exact ⟨h10, v, h11, h12.mono x.zz x.zw⟩
  all_goals (unfold CRep at hp ⊢; exact ⟨hp.1, hp.2.ext x⟩)
theorem NRep.key (x : Ext G h w G' h' w') {key : Key} {u : Value} {ns : List PV} (hk : SameKey G G' key) (hb : G.R key → w'.heap[G.β key]? = w.heap[G.β key]?) (hp : NRep G w key u ns) : NRep G' w' key u ns := by
  unfold NRep at hp ⊢
  obtain ⟨a1, a2, a3, a4⟩ := hk
  rw [a1, a2, a3, a4]
  refine ⟨fun r => ?_, hp.2⟩
  obtain ⟨us, T, f, c, h1, h0, h2, h3, h3', h4, h5, h6, h7⟩ := hp.1 r
  refine ⟨us, T, f, c, h1, h0, h2, h3, h3', by rw [hb r]; exact h4, h5, h6, fun i e he => ?_⟩
  obtain ⟨h8, h9⟩ := h7 i e he
  refine ⟨h8, fun j c hc => ?_⟩
  obtain ⟨h10, v, h11, h12⟩ := h9 j c hc
  exact ⟨h10, v, h11, h12.mono x.zz x.zw⟩
theorem MRep.ext {k i : Nat} {u : Value} {c : PV} (x : Ext G h w G' h' w') (hk : SameKey G G' (nest k i 0)) (hb : G.R (nest k i 0) → w'.heap[G.β (nest k i 0)]? = w.heap[G.β (nest k i 0)]?) (hp : MRep G h w k i u c) : MRep G' h' w' k i u c := by
  cases c
  case uslc ns => unfold MRep at hp ⊢; exact NRep.key x hk hb hp
  all_goals (unfold MRep at hp ⊢; exact hp.ext x)
theorem ORep.ext {k : Nat} {o : Ob} (x : Ext G h w G' h' w') (hk : ∀ y, SameKey G G' (k, y)) (hb : ∀ y, G.R (k, y) → w'.heap[G.β (k, y)]? = w.heap[G.β (k, y)]?) (hp : ORep G h w k o) : ORep G' h' w' k o := by
  cases o with
  | dead => trivial
  | var cs =>
    unfold ORep at hp ⊢
    obtain ⟨r, us, T, h1, h2⟩ := hp
    obtain ⟨a1, a2, _⟩ := hk none
    rw [show G'.β (root k) = G.β (root k) from a1]
    exact ⟨a2.2 r, us, T, by rw [hb none r]; exact h1, h2.mono fun _ _ y => ⟨y.1, y.2.ext x⟩⟩
  | mp fr ks vs =>
    unfold ORep at hp ⊢
    obtain ⟨r, h1, es, h2, h3, h4⟩ := hp
    obtain ⟨a1, a2, _⟩ := hk none
    rw [show G'.β (root k) = G.β (root k) from a1]
    refine ⟨a2.2 r, h1, es, by rw [hb none r]; exact h2, h3, fun i c hc => ?_⟩
    obtain ⟨e, h5, h6⟩ := h4 i c hc
    exact ⟨e, h5, h6.ext x (hk _) (hb _)⟩
  | arr sz ver fr es =>
    unfold ORep at hp ⊢
    obtain ⟨a1, a2, a3, a4⟩ := hk none
    rw [show G'.β (root k) = G.β (root k) from a1, show G'.γ (root k) = G.γ (root k) from a3]
    obtain ⟨h1, h2, h3, h4, h5⟩ := hp
    refine ⟨h1, h2, h3, fun r => ?_, fun r => h5 fun y => r (a2.2 y)⟩
    obtain ⟨us, T, h6, h7, h8⟩ := h4 (a2.1 r)
    refine ⟨us, T, by rw [hb none (a2.1 r)]; exact h6, h7, fun i e he => ?_⟩
    obtain ⟨h9, h10⟩ := h8 i e he
    refine ⟨h9, fun j c hc => ?_⟩
    obtain ⟨u, h11, h12⟩ := h10 j c hc
    exact ⟨u, h11, h12.ext x (hk _) (hb _)⟩
def SameOr (G G' : Gh) (h : Heap) (k : Nat) (y : Option (Nat × Nat)) : Prop := SameKey G G' (k, y) ∨ (¬ G'.R (k, y) ∧ ∀ g o, h[k]? = some (g, o) → o = .dead)
/-- ONE OBJECT IS CHANGED (or made anew) -/
theorem HRep.update (r : HRep B Z0 G h w) (k : Nat) (g' : Nat) (o' : Ob) (hk : k < h.length) (x : Ext G h w G' (h.set k (g', o')) w')
    (hs : ∀ k' y, k' ≠ k → SameOr G G' h k' y) (hw : ∀ k' y, k' ≠ k → G.R (k', y) → w'.heap[G.β (k', y)]? = w.heap[G.β (k', y)]?) (hsz : w.heap.size ≤ w'.heap.size)
    (hz : ∀ b, G'.Z b → isC w' b) (hzo : ∀ b, G'.Z b → G.Z b ∨ B ≤ b) (hzn : ∀ k' y, k' ≠ k → G.R (k', y) → ¬ G.Z (G.β (k', y)) → ¬ G'.Z (G.β (k', y)))
    (hl : ∀ y, G'.R (k, y) → B ≤ G'.β (k, y) ∧ isC w' (G'.β (k, y)) ∧ (liveOb o' = true → ¬ G'.Z (G'.β (k, y))) ∧ (∀ y', G'.R (k, y') → G'.β (k, y) = G'.β (k, y') → y = y') ∧ ∀ k' y', k' ≠ k → G'.R (k', y') → G'.β (k, y) ≠ G'.β (k', y'))
    (hf : frozenOb o' = true → ∀ y, G'.R (k, y) → G'.Z (G'.β (k, y)))
    (ho : ORep G' (h.set k (g', o')) w' k o') : HRep B Z0 G' (h.set k (g', o')) w' := by
  have hs2 : ∀ k' y, k' ≠ k → G'.R (k', y) → SameKey G G' (k', y) := fun k' y hkk hR => (hs k' y hkk).resolve_right fun x => x.1 hR
  refine ⟨Nat.le_trans r.base hsz, fun b hb => (hzo b hb).elim (r.zo b) .inr, hz, fun key hkey => ?_, fun k' g o hko hlv y hR => ?_, fun k' g o hko hfo y hR => ?_, fun key key' h1 h2 he => ?_, fun k' g o hko => ?_⟩
  · obtain ⟨k', y⟩ := key
    by_cases hkk : k' = k
    · subst hkk; obtain ⟨a, b, _⟩ := hl y hkey; exact ⟨a, b⟩
    · obtain ⟨a1, a2, _⟩ := hs2 k' y hkk hkey
      obtain ⟨b1, b2⟩ := r.lv _ (a2.1 hkey)
      rw [a1]
      exact ⟨b1, b2.eq (hw k' y hkk (a2.1 hkey))⟩
  · by_cases hkk : k' = k
    · subst hkk
      rw [List.getElem?_set_self hk] at hko
      cases hko
      exact (hl y hR).2.2.1 hlv
    · rw [List.getElem?_set_ne (Ne.symm hkk)] at hko
      obtain ⟨a1, a2, _⟩ := hs2 k' y hkk hR
      rw [a1]
      exact hzn k' y hkk (a2.1 hR) (r.nz k' g o hko hlv y (a2.1 hR))
  · by_cases hkk : k' = k
    · subst hkk
      rw [List.getElem?_set_self hk] at hko
      cases hko
      exact hf hfo y hR
    · rw [List.getElem?_set_ne (Ne.symm hkk)] at hko
      obtain ⟨a1, a2, _⟩ := hs2 k' y hkk hR
      rw [a1]
      exact x.zz _ (r.fz k' g o hko hfo y (a2.1 hR))
  · obtain ⟨k1, y1⟩ := key
    obtain ⟨k2, y2⟩ := key'
    by_cases hk1 : k1 = k <;> by_cases hk2 : k2 = k
    · subst hk1; subst hk2
      rw [(hl y1 h1).2.2.2.1 y2 h2 he]
    · subst hk1
      exact absurd he ((hl y1 h1).2.2.2.2 k2 y2 hk2 h2)
    · subst hk2
      exact absurd he.symm ((hl y2 h2).2.2.2.2 k1 y1 hk1 h1)
    · obtain ⟨a1, a2, _⟩ := hs2 k1 y1 hk1 h1
      obtain ⟨b1, b2, _⟩ := hs2 k2 y2 hk2 h2
      exact r.inj _ _ (a2.1 h1) (b2.1 h2) (a1.symm.trans (he.trans b1))
  · by_cases hkk : k' = k
    · subst hkk
      rw [List.getElem?_set_self hk] at hko
      cases hko
      exact ho
    · rw [List.getElem?_set_ne (Ne.symm hkk)] at hko
      by_cases hd : o = .dead
      · subst hd; trivial
      · exact (r.ob k' g o hko).ext x (fun y => (hs k' y hkk).resolve_right fun x => hd (x.2 g o hko)) (fun y => hw k' y hkk)
theorem HRep.cells (r : HRep B Z0 G h w) (hs : w.heap.size ≤ w'.heap.size) (hc : ∀ b, isC w b → w'.heap[b]? = w.heap[b]?) : HRep B Z0 G h w' ∧ Ext G h w G h w' := by
  have x : Ext G h w G h w' := ⟨fun _ y => y, fun b hb => hc b (r.zb b hb), fun k gn ob e => ⟨gn, ob, e, Nat.le_refl _, fun _ => Keep.refl k ob (SameKey.refl _ _) fun _ _ => SameKey.refl _ _⟩⟩
  exact ⟨⟨Nat.le_trans r.base hs, r.zo, fun b hb => (r.zb b hb).eq (hc b (r.zb b hb)), fun key hk => ⟨(r.lv key hk).1, (r.lv key hk).2.eq (hc _ (r.lv key hk).2)⟩, r.nz, r.fz, r.inj,
    fun k g o ho => (r.ob k g o ho).ext x (fun y => SameKey.refl _ _) fun y hR => hc _ (r.lv _ hR).2⟩, x⟩
end
end Go.Proofs.Ytgdcogoacnghkaa.Am
/-
  The program's operations as the plain machine's: the types looked up, the slots numbered.
-/
namespace Go.Proofs.Ytgdcogoacnghkaa.Am
set_option linter.unusedSimpArgs false
set_option linter.unusedVariables false
set_option linter.unusedSectionVars false

/-- a constant -/
def ofC : Value → Option PV
  | .bool b => some (.bool b)
  | .int k n => some (.int k n)
  | .string s => some (.str s)
  | .pointer none => some (.lit (.pointer none))
  | .slice none 0 0 => some .nils
  | .nilFunc => some (.lit .nilFunc)
  | .nilIface => some (.lit .nilIface)
  | .map none => some (.lit (.map none))
  | _ => none
def ofCs : List Value → Option (List PV)
  | [] => some []
  | c :: cs => match ofC c, ofCs cs with
    | some a, some b => some (a :: b)
    | _, _ => none
def ofV : Value → Option PV
  | .agg cs => (ofCs cs.toList).map .agg
  | v => ofC v

def infoA (P : Program) (t : TypeId) : Option Bool := match P.underlying t with
  | some (.struct _) | some (.array _ _) => some true
  | some _ => some false
  | none => none
def sizeA (P : Program) (t : TypeId) : Option Nat := (P.info? t).map (·.size)
def zeroA (P : Program) (t : TypeId) : Option PV := match P.info? t with
  | some i => match i.zero with
    | some z => ofV z
    | none => none
  | none => none
def bytesA (P : Program) (t : TypeId) : Option Nat := (P.info? t).map (·.bytes)
def fieldA (P : Program) (t : TypeId) (f : Nat) : Option Field := match P.underlying t with
  | some (.struct fs) => fs[f]?
  | _ => none
def elemA (P : Program) (t : TypeId) : Option TypeId := match P.underlying t with
  | some (.slice e) => some e
  | _ => none
def plainT (P : Program) (t : TypeId) : Bool := match P.underlying t with
  | some .bool | some (.int _) | some .string => true
  | _ => false

def boolT (P : Program) (t : TypeId) : Bool := match P.underlying t with
  | some .bool => true
  | _ => false

def optM {α β : Type} (f : α → Option β) : List α → Option (List β)
  | [] => some []
  | a :: l => match f a, optM f l with
    | some b, some m => some (b :: m)
    | _, _ => none
/-- the places of a struct's parts -/
def placesA (P : Program) : List Field → Option (List (Nat × Nat))
  | [] => some []
  | f :: fs => match P.info? f.type, placesA P fs with
    | some i, some l => some ((f.offset, i.size) :: l)
    | _, _ => none
/-- an operand that need not be there -/
def optO (rd : Operand → Option Opd) : Option Operand → Option (Option Opd)
  | none => some none
  | some x => (rd x).map some

/-- the cells of a type: 0, or the size of a slice's elements -/
def cellKinds (P : Program) : Nat → TypeId → Option (List Nat)
  | 0, _ => none
  | n + 1, t => match P.underlying t with
    | some (.slice e) => (sizeA P e).map ([·])
    | some (.struct fs) => (optM (fun (f : Field) => cellKinds P n f.type) fs.toList).map List.flatten
    | some (.array m e) => (cellKinds P n e).map fun l => (List.replicate m l).flatten
    | some (.tuple ts) => (optM (cellKinds P n) ts.toList).map List.flatten
    | some _ => some [0]
    | none => none
def numbered (k : Nat) : List Nat → List (Nat × Nat)
  | [] => []
  | 0 :: l => (0, 0) :: numbered k l
  | s :: l => (k, s) :: numbered (k + 1) l

/-- a zero of bytes -/
def isZ8 : PV → Bool
  | .int .u8 n => n == 0
  | _ => false
def isIntT (P : Program) (t : TypeId) : Bool := match P.underlying t with
  | some (.int _) => true
  | _ => false
def compBuiltin (P : Program) (rd : Operand → Option Opd) (k : Nat) (app : Nat × Option Nat) (b : Builtin) (args : List Operand) (ts : List TypeId) : Option XOp :=
  match b, args, ts with
  | .len, [x], [t] => match P.underlying t with
    | some .string => (rd x).map (.len true)
    | some (.slice _) => (rd x).map (.len false)
    | some (.array n _) => some (.lenK n)
    | _ => none
  | .min, x :: xs, t :: _ => match P.underlying t, optM rd (x :: xs) with
    | some (.int _), some ys => some (.minmax false ys)
    | _, _ => none
  | .max, x :: xs, t :: _ => match P.underlying t, optM rd (x :: xs) with
    | some (.int _), some ys => some (.minmax true ys)
    | _, _ => none
  | .append, [s, x], [t, u] => match P.underlying t with
    | some (.slice e) => match sizeA P e, bytesA P e, (zeroA P e), rd s, rd x with
      | some sz, some by_, some z, some s, some x => if sz ≠ 0 ∧ by_ ≠ 0 ∧ (ecells z).length = sz ∧ u = t ∧ app.1 ≠ 4 then some (if app.1 = 6 then .appendF (app.2.getD k) sz by_ s x else .append (app.2.getD k) sz by_ app.1 s x) else if sz = 1 ∧ by_ ≠ 0 ∧ isZ8 z = true ∧ isIntT P u = true then some (.append (app.2.getD k) 1 by_ 4 s x) else none
      | _, _, _, _, _ => none
    | _ => none
  | .copy, [d, s], [t, _] => match P.underlying t with
    | some (.slice e) => match sizeA P e, rd d, rd s with
      | some sz, some d, some s => if sz ≠ 0 then some (.copy sz d s) else none
      | _, _, _ => none
    | _ => none
  | _, _, _ => none

/-- an array of elements of one cell: how many -/
def arrN (P : Program) (t : TypeId) : Option Nat := match P.underlying t with
  | some (.array n e) => if sizeA P e = some 1 ∧ n ≠ 0 then some n else none
  | _ => none
def sliceT (P : Program) (t : TypeId) : Bool := match P.underlying t with
  | some (.slice _) => true
  | _ => false
/-- a struct whose parts are plain cells, one behind the other: their kinds -/
def kindT (P : Program) (t : TypeId) : Option Nat := match P.underlying t with
  | some .bool => some 0
  | some (.int _) => some 1
  | some .string => some 2
  | _ => none
def flatF (P : Program) : Nat → List Field → Option (List Nat)
  | _, [] => some []
  | i, f :: fs => if f.name ≠ "_" ∧ f.offset = i ∧ sizeA P f.type = some 1 then (match kindT P f.type, flatF P (i + 1) fs with
    | some k, some l => some (k :: l)
    | _, _ => none) else none
def flatS (P : Program) (t : TypeId) : Option (List Nat) := match P.underlying t with
  | some (.struct fs) => if P.stoodInHeld t = false ∧ P.eqGuardType P.depth t = false then flatF P 0 fs.toList else none
  | _ => none
/-- the last operation before i that writes slot t -/
def lastW (ops : List Oper) (t : Tmp) : Nat → Option Nat
  | 0 => none
  | i + 1 => if (ops[i]?.bind (·.dst)) = some t then some i else lastW ops t i
/-- is something appended to a parameter? -/
def appReg (n : Nat) (ops : List Oper) : Bool := ops.zipIdx.any fun x => match x.1.op with
  | .call c => (match c.callee, c.args[0]? with
    | .builtin .append, some (Operand.tmp t) => (match lastW ops t x.2 with
      | none => Nat.blt t n
      | some j => match (ops[j]?).map (·.op) with
        | some (Op.move (Operand.tmp t0)) => Nat.blt t0 n
        | _ => false)
    | _, _ => false)
  | _ => false
def appCode (n : Nat) : Code → Bool
  | .region _ ops _ => appReg n ops.toList
  | .seq a b | .cond _ a b | .rangeFunc _ _ a b => appCode n a || appCode n b
  | .block _ b | .loop b | .scope b => appCode n b
  | _ => false
/-- pointers and function values are not passed as frozen memory -/
def innerT (P : Program) (t : TypeId) : Bool := match P.underlying t with
  | some (.pointer _) | some (.func ..) => true
  | some (.tuple ts) => ts.toList.any fun t => match P.underlying t with
    | some (.pointer _) | some (.func ..) => true
    | _ => false
  | _ => false
def appParam (P : Program) (f : FuncId) : Bool := match P.funcs[f]? with
  | some fn => match fn.body with
    | some c => fn.params.toList.any (innerT P) || appCode fn.params.size c
    | none => false
  | none => false
def innerCall (P : Program) (ats : List TypeId) (ty : TypeId) : Bool := ats.any (innerT P) || innerT P ty
/-- a map's keys' kind, its values' zero, the size of the elements of slices that it holds -/
def keyKind (P : Program) (t : TypeId) : Option Nat := match P.underlying t with
  | some .bool => some 0
  | some (.int _) => some 1
  | some .string => some 2
  | _ => none
def mapA (P : Program) (t : TypeId) : Option (Nat × PV × Nat) := match P.underlying t with
  | some (.map kt et) => match keyKind P kt, zeroA P et with
    | some n, some z => some (n, z, match elemA P et with
      | some e => (sizeA P e).getD 0
      | none => 0)
    | _, _ => none
  | _ => none
/-- one operation; k: the number of the first object that it may make; app: how 'append' goes, and the array that it appends to; al: no order is drawn -/
def compOp (P : Program) (rd : Operand → Option Opd) (k : Nat) (app : Nat × Option Nat) (al : Bool) (type : TypeId) : Op → Option XOp
  | .move x | .assign x => (rd x).map .mv
  | .pick c a b => match rd c, rd a, rd b with
    | some c, some a, some b => some (.pick c a b)
    | _, _, _ => none
  | .alloc e => match arrN P e with
    | some _ => (zeroA P e).map fun z => .allocA k (ecells z)
    | none => (zeroA P e).map fun z => .alloc k (ecells z)
  | .box e x => match arrN P e with
    | some _ => (rd x).map (.boxA k)
    | none => (rd x).map (.box k)
  | .build t ps => match zeroA P t, P.underlying t with
    | some z, some (.struct fs) => match placesA P fs.toList with
      | some places => match optM (fun (p : Nat × Operand) => match places[p.1]?, rd p.2 with
          | some q, some x => some (q.1, q.2, x)
          | _, _ => none) ps.toList with
        | some l => some (.build (ecells z) l)
        | none => none
      | none => none
    | some z, some (.array _ e) => match sizeA P e, optM (fun (p : Nat × Operand) => (rd p.2).map fun x => (p.1, x)) ps.toList with
      | some s, some l => some (.build (ecells z) (l.map fun p => (p.1 * s, s, p.2)))
      | _, _ => none
    | _, _ => none
  | .buildSlice t n ps => match elemA P t with
    | some e => match sizeA P e, zeroA P e, optM (fun (p : Nat × Operand) => (rd p.2).map fun x => (p.1, x)) ps.toList with
      | some s, some z, some l => if s ≠ 0 ∧ n * s ≤ 16777216 ∧ (ecells z).length = s then some (if app.1 = 3 then .lit s (List.replicate n z) l else .mkarr k s (List.replicate n z) l) else none
      | _, _, _ => none
    | none => none
  | .load t a => match infoA P t, sizeA P t, rd a with
    | some g, some s, some a => if s ≠ 0 then some (if app.1 = 5 then .loadV g s a else if g = true ∧ arrN P t = some s then .loadA s a else .load g s a) else none
    | _, _, _ => none
  | .store t a v => match sizeA P t, rd a, rd v with
    | some s, some a, some v => if s ≠ 0 then some (if arrN P t = some s then .storeA s a v else .store s a v) else none
    | _, _, _ => none
  | .nilCheck x => (rd x).map .nilchk
  | .binOp op t x y _ => if op = .eql ∨ op = .neq then (if plainT P t then (match rd x, rd y with
      | some x, some y => some (.bin op (boolT P t) x y)
      | _, _ => none) else if sliceT P t then (match rd x, rd y with
        | some x, some y => some (.eqNil (op == .neq) x y)
        | _, _ => none) else (match flatS P t, rd x, rd y with
      | some ts, some x, some y => some (.eqS (op == .neq) ts x y)
      | _, _, _ => none)) else (match rd x, rd y with
      | some x, some y => some (.bin op (boolT P t) x y)
      | _, _ => none)
  | .unOp op _ x => (rd x).map (.un op)
  | .convert s d x => match P.underlying s, P.underlying d with
    | some (.int _), some (.int k) => (rd x).map (.conv k)
    | some .string, some .string => (rd x).map .convId
    | some (.slice e), some .string => (match P.underlying e with
      | some (.int .u8) => if sizeA P e = some 1 then (rd x).map .convStr else none
      | _ => none)
    | _, _ => none
  | .makeSlice t l c => match elemA P t with
    | some e => match sizeA P e, bytesA P e, zeroA P e, rd l, rd c with
      | some s, some b, some z, some l, some c => if s ≠ 0 ∧ (ecells z).length = s ∧ (ecells z).all one then some (.makeSlice k s b (purE z) l c) else none
      | _, _, _, _, _ => none
    | none => none
  | .slice t x lo hi mx => match P.underlying t with
    | some .string => match rd x, optO rd lo, optO rd hi, optO rd mx with
      | some x, some lo, some hi, some mx => some (.slice true 0 x lo hi mx)
      | _, _, _, _ => none
    | some (.slice e) => match sizeA P e, rd x, optO rd lo, optO rd hi, optO rd mx with
      | some s, some x, some lo, some hi, some mx => some (.slice false s x lo hi mx)
      | _, _, _, _, _ => none
    | some (.array _ _) => match arrN P t, rd x, optO rd lo, optO rd hi, mx with
      | some n, some x, some lo, some hi, none => some (.sliceA n x lo hi)
      | _, _, _, _, _ => none
    | _ => none
  | .fieldAddr s x f => match fieldA P s f with
    | some f => match sizeA P f.type, rd x with
      | some s, some x => if s ≠ 0 then some (.fieldAddr f.offset x) else none
      | _, _ => none
    | none => none
  | .field t x f => match fieldA P t f with
    | some f => match infoA P f.type, sizeA P f.type, rd x with
      | some g, some s, some x => if s ≠ 0 then some (.field g f.offset s x) else none
      | _, _, _ => none
    | none => none
  | .indexAddr t x i => match P.underlying t with
    | some (.slice e) => match sizeA P e, rd x, rd i with
      | some s, some x, some i => if s ≠ 0 then some (.indexAddr s x i) else none
      | _, _, _ => none
    | some (.array n e) => match sizeA P e, rd x, rd i with
      | some s, some x, some i => if s ≠ 0 then some (.indexAddrA n s x i) else none
      | _, _, _ => none
    | _ => none
  | .index t x i => match P.underlying t with
    | some (.array n e) => match infoA P e, sizeA P e, rd x, rd i with
      | some g, some s, some x, some i => if s ≠ 0 then some (.indexA g n s x i) else none
      | _, _, _, _ => none
    | some .string => match rd x, rd i with
      | some x, some i => some (.indexS x i)
      | _, _ => none
    | _ => none
  | .extract x i => (rd x).map (.extract · i)
  | .makeFunc f a b => match optM rd a.toList, optM rd b.toList with
    | some a, some b => some (.mkfn f a b)
    | _, _ => none
  | .call c => match c.callee with
    | .builtin b => compBuiltin P rd k app b c.args.toList c.argTypes.toList
    | .value (.func f) => if innerCall P c.argTypes.toList type || appParam P f then (match rd (.func f), optM rd c.args.toList with
        | some f, some l => some (.callv f l)
        | _, _ => none) else (match optM rd c.args.toList, cellKinds P 5 type with
      | some l, some ks => some (.call f l (numbered k ks) al)
      | _, _ => none)
    | .value f => match rd f, optM rd c.args.toList with
      | some f, some l => some (if al then .cally f l else .callv f l)
      | _, _ => none
    | _ => none
  | .makeInterface .. | .panic _ => some .stuck
  | .makeMap _ none => some (.makeMap k)
  | .lookup t m x ok => match mapA P t, rd m, rd x with
    | some (kt, z, s), some m, some x => some (if app.1 = 7 ∧ ok = false ∧ s ≠ 0 then .lookupT k kt s z m x else .lookup kt ok z m x)
    | _, _, _ => none
  | .mapUpdate t m x v | .insert t m x v => match mapA P t, rd m, rd x, rd v with
    | some (kt, _, _), some m, some x, some v => some (.mapUpd kt m x v)
    | _, _, _, _ => none
  | .mapEntry t m x => match mapA P t, rd m, rd x with
    | some (kt, z, s), some m, some x => if s ≠ 0 then some (.mapEntry k kt s z m x) else none
    | _, _, _ => none
  | .entryStore _ m i v => match rd m, rd i, rd v with
    | some m, some i, some v => some (.entryStore m i v)
    | _, _, _ => none
  | _ => none

/-- 0: asks nothing of memory, 1: makes, 2: reads, 3: writes -/
def xkind : XOp → Nat
  | .alloc .. | .box .. | .makeSlice .. | .allocA .. | .boxA .. | .makeMap .. => 1
  | .lit .. | .mkarr .. | .load .. | .loadV .. | .call .. | .loadA .. | .convStr .. | .lookup .. => 2
  | .append _ _ _ m _ _ => if m = 2 then 2 else 3
  | .appendF .. => 2
  | .store .. | .copy .. | .callv .. | .cally .. | .storeA .. | .mapUpd .. | .mapEntry .. | .entryStore .. | .lookupT .. => 3
  | _ => 0

def rdOp (vs : List Nat) (ops : List Oper) (i : Nat) : Operand → Option Opd
  | .tmp t => match lastW ops t i with
    | some j => some (.l j)
    | none => (vs.idxOf? t).map .v
  | .const v => (ofV v).map .c
  | .func f => some (.c (.fn (.func f) [] []))
  | .global _ => none
def readsOf (o : Oper) : List Tmp := o.op.operands.toList.filterMap fun (x : Operand) => match x with | .tmp t => some t | _ => none
/-- only what operation o reads -/
def rdIn (o : Oper) (rd : Operand → Option Opd) (x : Operand) : Option Opd := match x with
  | .tmp t => if (readsOf o).contains t then rd x else none
  | x => rd x
/-- has operation t's slot been written by a list written out in the same statement? -/
def litAt (ops : List Oper) (i : Nat) : Option Operand → Bool
  | some (Operand.tmp t) => match lastW ops t i with
    | some j => match (ops[j]?).map (·.op) with
      | some (Op.buildSlice ..) => true
      | _ => false
    | none => false
  | _ => false
/-- the array made in the same statement that is appended to -/
def newK (xs : List XOper) (dr : Bool) : Nat → Nat → Option Nat
  | 0, _ => none
  | n + 1, j => match (xs[j]?).map (·.op) with
    | some (XOp.mkarr k ..) => some k
    | some (XOp.makeSlice k ..) => some k
    | some (XOp.append k _ _ 2 _ _) => some k
    | some (XOp.call _ _ [(k, s)] _) => if dr ∧ s ≠ 0 then some k else none
    | some (XOp.mv (.l j')) => if dr then newK xs dr n j' else none
    | _ => none
def newAt (ops : List Oper) (xs : List XOper) (dr : Bool) (i : Nat) : Option Operand → Option Nat
  | some (Operand.tmp t) => match lastW ops t i with
    | some j => newK xs dr 4 j
    | none => none
  | _ => none
/-- is it read by calls and by lists written out alone? -/
def readOnly (P : Program) (vs : List Nat) (ops : List Oper) (i : Nat) : Option Tmp → Bool
  | some t => !vs.contains t && (ops.drop (i + 1)).all fun o => !(readsOf o).contains t || (match o.op with
    | .call c => (match c.callee with
      | .value (.func f) => !(innerCall P c.argTypes.toList o.type || appParam P f)
      | _ => false)
    | .buildSlice .. | .build .. => true
    | _ => false)
  | none => false
/-- .. and by one such list written out at least -/
def inLit (P : Program) (vs : List Nat) (ops : List Oper) (i : Nat) (t : Option Tmp) : Bool := readOnly P vs ops i t && (match t with
  | some t => ops.zipIdx.any fun o => Nat.blt i o.2 && (readsOf o.1).contains t && (match o.1.op with
    | .buildSlice .. => readOnly P vs ops o.2 o.1.dst
    | _ => false)
  | none => false)
/-- what an operation waits for, as a number's bits; acc: the same of those before it -/
def waitsFor (acc : List Nat) (o : Oper) : Nat :=
  o.after.toList.foldr (fun e m => if Region.binds .any e && Nat.blt e.on acc.length then m ||| (2 ^ e.on ||| acc.getD e.on 0) else m) 0
/-- of each operation, what it waits for -/
def waitL (acc : List Nat) : List Oper → List Nat
  | [] => acc
  | o :: rest => waitL (acc ++ [waitsFor acc o]) rest
def unord (ws : List Nat) (i j : Nat) : Bool := if j < i then !((ws.getD i 0).testBit j) else if i < j then !((ws.getD j 0).testBit i) else false
/-- is an entry of a map looked up to be appended to? -/
def takes (ops : List Oper) (i : Nat) (o : Oper) : Bool := match o.op with
  | .lookup _ _ _ false => match o.dst with
    | some t => (ops.drop (i + 1)).any fun o => match o.op with
      | .call c => (match c.callee with
        | .builtin .append => (match c.args[0]? with
          | some (Operand.tmp t') => t' == t
          | _ => false)
        | _ => false)
      | _ => false
    | none => false
  | _ => false
/-- is there an append that is not ordered against operation i? -/
def appLoose (ops : List Oper) (ws : List Nat) (i : Nat) : Bool := ops.zipIdx.any fun x => unord ws i x.2 && (takes ops x.2 x.1 || (match x.1.op with
  | .call c => (match c.callee with
    | .builtin .append => true
    | _ => false)
  | _ => false))
/-- does it lead to a variable as it stands? -/
def addrV (ops : List Oper) (i t : Nat) : Bool := match lastW ops t i with
  | none => true
  | some j => (ops.zipIdx.any fun x => takes ops x.2 x.1) && (match (ops[j]?).map (·.op) with
    | some (Op.fieldAddr _ (Operand.tmp t') _) => (lastW ops t' j).isNone
    | _ => false)
/-- is operation i ordered against all but moves? -/
def tight (os : List Op) (ws : List Nat) (i : Nat) : Bool := os.zipIdx.all fun x => !unord ws i x.2 || (match x.1 with
  | .move _ | .assign _ => true
  | _ => false)
/-- how 'append' goes; xs: the operations before it -/
def appOf (P : Program) (vs : List Nat) (ops : List Oper) (xs : List XOper) (dr : Bool) (i : Nat) (o : Oper) : Nat × Option Nat := match o.op with
  | .call c => match c.callee with
    | .builtin .append => match newAt ops xs dr i c.args[0]? with
      | some k => if litAt ops i c.args[1]? && (!dr || tight (ops.map fun o => o.op) (waitL [] ops) i) then (1, none) else if inLit P vs ops i o.dst then (6, some k) else (2, some k)
      | none => if litAt ops i c.args[1]? then (1, none) else (0, none)
    | _ => (0, none)
  | .buildSlice .. => if readOnly P vs ops i o.dst then (3, none) else (0, none)
  | .load _ (.tmp t) => if dr && addrV ops i t && appLoose ops (waitL [] ops) i then (5, none) else (0, none)
  | .lookup .. => if takes ops i o then (7, none) else (0, none)
  | _ => (0, none)
def dstOk (N : Nat) (o : Oper) : Bool := match o.dst with
  | some t => Nat.blt t N
  | none => true
def compOps (P : Program) (vs : List Nat) (N : Nat) (ops : List Oper) (al : Bool) : List XOper → Nat → List Oper → Option (List XOper × Nat)
  | acc, k, [] => some (acc, k)
  | acc, k, o :: rest => match compOp P (rdIn o (rdOp vs ops acc.length)) k (appOf P vs ops acc (!al) acc.length o) al o.type o.op with
    | none => none
    | some x => match (match o.guard with
        | none => some none
        | some (j, b) => match (ops[j]?).bind (·.dst) with
          | some t => (rdOp vs ops acc.length (.tmp t)).map fun d => some (d, b)
          | none => none) with
      | none => none
      | some g => if dstOk N o then compOps P vs N ops al (acc ++ [{ op := x, var := o.dst.bind (vs.idxOf? ·), guard := g, hide := [] }]) (k + sitesOf x) rest else none
/-- a call whose arguments are constants: it asks nothing of memory -/
def constP (p : PV) : Bool := (ecells p).all fun c => pureC c || (match c with | .nils => true | _ => false)
def constCall : XOp → Bool
  | .call _ args _ _ => args.all fun a => match a with
    | .c p => constP p
    | _ => false
  | _ => false
def isApp : XOp → Bool
  | .append .. | .lookupT .. => true
  | _ => false
def isLoadV : XOp → Bool
  | .loadV .. => true
  | _ => false
def isLit : XOp → Bool
  | .lit .. | .mkarr .. => true
  | _ => false
def quiet (op : XOp) : Bool := constCall op || isLoadV op || isLit op
def okPair (x y : XOper) : Bool := xkind x.op == 0 || xkind y.op == 0 || (xkind x.op ≤ 2 && xkind y.op ≤ 2) || (isApp x.op && quiet y.op) || (quiet x.op && isApp y.op)
/-- the objects of the operations that are not ordered against operation i -/
def hideOf (ws : List Nat) (xs : List XOper) (i : Nat) : List Nat :=
  ((xs.zipIdx.filter fun y => unord ws i y.2).map fun y => siteNos y.1.op).flatten
def isCallv : XOp → Bool
  | .callv .. => true
  | _ => false
def isCally : XOp → Bool
  | .cally .. => true
  | _ => false
def drawnOk (ops : List Oper) (ws : List Nat) (xs : List XOper) : Bool :=
  (!xs.any fun x => isCally x.op) && (!xs.any (fun x => isCallv x.op) || !xs.any (fun x => isLoadV x.op)) && (List.range ops.length).all fun j => (List.range j).all fun i =>
    !unord ws j i || ((match ops[i]?, ops[j]? with
      | some a, some b => a.apart ops.toArray b && b.apart ops.toArray a
      | _, _ => false) && (match xs[i]?, xs[j]? with
      | some a, some b => okPair a b
      | _, _ => false))
/-- edges lead back -/
def edgesOk : Nat → List Oper → Bool
  | _, [] => true
  | i, o :: r => o.after.all (fun e => !Region.binds .any e || Nat.blt e.on i) && edgesOk (i + 1) r
def compReg (P : Program) (vs : List Nat) (N : Nat) (k : Nat) (ops : List Oper) (draw : Bool) : Option (List XOper × Nat) :=
  match compOps P vs N ops (!draw) [] k ops with
  | none => none
  | some (xs, k') =>
    if draw then
      let ws := waitL [] ops
      if drawnOk ops ws xs && edgesOk 0 ops then some (xs.zipIdx.map (fun y => { y.1 with hide := hideOf ws xs y.2 }), k') else none
    else some (xs, k')
/-- is there no loop over a function in it? -/
def noR : Code → Bool
  | .seq a b | .cond _ a b => noR a && noR b
  | .block _ b | .loop b | .scope b => noR b
  | .rangeFunc .. => false
  | _ => true
def compCode (P : Program) (vs : List Nat) (N : Nat) : Nat → Code → Option (XCode × Nat)
  | k, .skip => some (.skip, k)
  | k, .region _ ops d => match compReg P vs N k ops.toList d with
    | some (xs, k') => some (.reg xs, k')
    | none => none
  | k, .seq a b => match compCode P vs N k a with
    | some (x, k1) => match compCode P vs N k1 b with
      | some (y, k2) => some (.seq x y, k2)
      | none => none
    | none => none
  | k, .cond c a b => match compCode P vs N k a with
    | some (x, k1) => match compCode P vs N k1 b with
      | some (y, k2) => match rdOp vs [] 0 c with
        | some c => some (.cond c x y, k2)
        | none => none
      | none => none
    | none => none
  | k, .block id b => match compCode P vs N k b with
    | some (x, k1) => some (.block id x, k1)
    | none => none
  | k, .loop b => match compCode P vs N k b with
    | some (x, k1) => some (.loop x, k1)
    | none => none
  | k, .exit id => some (.exit id, k)
  | k, .ret => some (.ret, k)
  | k, .scope b => compCode P vs N k b
  | k, .label _ => some (.skip, k)
  | k, .rangeFunc g ps a b => match compCode P vs N k a with
    | some (x, k1) => match compCode P vs N k1 b with
      | some (y, k2) => match rdOp vs [] 0 g with
        | some g => if noR a && noR b && ps.all (Nat.blt · N) then some (.rfor g (ps.toList.map fun t => vs.idxOf? t) x y, k2) else none
        | none => none
      | none => none
    | none => none
  | _, _ => none

/-! the slots that are read in another region than they are written in -/
def extReads (ops : List Oper) : List Tmp :=
  ((ops.zipIdx.map fun x => (readsOf x.1 ++ (match x.1.guard with | some (j, _) => ((ops[j]?).bind (·.dst)).toList | none => [])).filter fun t => (lastW ops t x.2).isNone).flatten)
def extCode : Code → List Tmp
  | .region _ ops _ => extReads ops.toList
  | .seq a b => extCode a ++ extCode b
  | .cond (.tmp t) a b => t :: (extCode a ++ extCode b)
  | .cond _ a b => extCode a ++ extCode b
  | .block _ b | .loop b | .scope b => extCode b
  | .rangeFunc (.tmp t) _ a b => t :: (extCode a ++ extCode b)
  | .rangeFunc _ _ a b => extCode a ++ extCode b
  | _ => []
structure XFn where
  ntmps : Nat
  /-- slots of the variables -/
  vars : List Nat
  sites : Nat
  /-- results: a variable, or memory at the address in a variable -/
  results : List (Nat × Option (Bool × Nat))
  body : XCode
  deriving Inhabited
def insNat (t : Nat) : List Nat → List Nat
  | [] => [t]
  | a :: l => if t < a then t :: a :: l else if t = a then a :: l else a :: insNat t l
def varsOf (f : Func) (c : Code) : List Nat :=
  (List.range (f.params.size + f.nfree) ++ extCode c ++ f.results.toList.map fun (r : ResultVar) => match r with | .tmp t => t | .cell a _ => a).foldl (fun l t => insNat t l) []
def compFn (P : Program) (f : FuncId) : Option XFn :=
  match P.funcs[f]? with
  | none => none
  | some fn => match fn.body with
    | none => none
    | some c =>
      let vs := varsOf fn c
      match compCode P vs fn.ntmps 0 c, optM (fun (r : ResultVar) => match r with
          | .tmp t => (vs.idxOf? t).map fun v => (v, none)
          | .cell a t => match vs.idxOf? a, infoA P t, sizeA P t with
            | some v, some g, some s => some (v, some (g, s))
            | _, _, _ => none) fn.results.toList with
      | some (x, k), some rs => if !(fn.name == "runtime.NumGoroutine") ∧ nodupN vs = true ∧ vs.all (Nat.blt · fn.ntmps) = true ∧ fn.params.size + fn.nfree ≤ fn.ntmps then some ⟨fn.ntmps, vs, k, rs, x⟩ else none
      | _, _ => none
/-- .. its objects numbered from off on -/
def compFnAt (P : Program) (f : FuncId) (off : Nat) : Option XFn :=
  match P.funcs[f]? with
  | none => none
  | some fn => match fn.body with
    | none => none
    | some c =>
      let vs := varsOf fn c
      match compCode P vs fn.ntmps off c, optM (fun (r : ResultVar) => match r with
          | .tmp t => (vs.idxOf? t).map fun v => (v, none)
          | .cell a t => match vs.idxOf? a, infoA P t, sizeA P t with
            | some v, some g, some s => some (v, some (g, s))
            | _, _, _ => none) fn.results.toList with
      | some (x, k), some rs => if !(fn.name == "runtime.NumGoroutine") ∧ nodupN vs = true ∧ vs.all (Nat.blt · fn.ntmps) = true ∧ fn.params.size + fn.nfree ≤ fn.ntmps then some ⟨fn.ntmps, vs, k, rs, x⟩ else none
      | _, _ => none
end Go.Proofs.Ytgdcogoacnghkaa.Am
/-
  What the plain machine says of an operation is so: operations that leave memory alone.
-/
namespace Go.Proofs.Ytgdcogoacnghkaa.Am
set_option linter.unusedSimpArgs false
set_option linter.unusedVariables false
set_option linter.unusedSectionVars false
open Go.RowKit

/-- the operation is carried out; what comes is p, and memory lies as ws says -/
def Good (P : Program) (B : Nat) (Z0 : Nat → Prop) (G : Gh) (h : Heap) (w : World) (s : Sem Next) (p : PV) (ws : List (Nat × Row)) : Prop :=
  ∃ n v w' G', s.run P w = .ok n w' ∧ (n = .value v ∨ n = .skip ∧ v = undef) ∧ HRep B Z0 G' (upd h ws) w' ∧ Ext G h w G' (upd h ws) w' ∧ VRep G' (upd h ws) w' D v p ∧ Bl B w w'
section
variable {P : Program} {B : Nat} {Z0 : Nat → Prop} {G : Gh} {h : Heap} {w : World}
theorem good_same (hr : HRep B Z0 G h w) {s : Sem Next} {v : Value} {p : PV} (hs : s.run P w = .ok (.value v) w) (hv : VRep G h w D v p) : Good P B Z0 G h w s p [] :=
  ⟨_, v, w, G, hs, .inl rfl, hr, Ext.refl, hv, Bl.refl _ _⟩
theorem good_val (hr : HRep B Z0 G h w) {s : Sem Value} {v : Value} {p : PV} (hs : s.run P w = .ok v w) (hv : VRep G h w D v p) : Good P B Z0 G h w (do pure (.value (← s))) p [] :=
  good_same hr (by simp [hs]) hv

/-! reading off what a plain value is -/
theorem rep_bool {n : Nat} {v : Value} {b : Bool} (hv : VRep G h w n v (.bool b)) : v = .bool b := by cases n <;> (unfold VRep at hv; exact hv)
theorem rep_int {n : Nat} {v : Value} {k : IntKind} {i : Int} (hv : VRep G h w n v (.int k i)) : v = .int k i := by cases n <;> (unfold VRep at hv; exact hv)
theorem rep_str {n : Nat} {v : Value} {s : ByteArray} (hv : VRep G h w n v (.str s)) : v = .string s := by cases n <;> (unfold VRep at hv; exact hv)
theorem rep_nils {n : Nat} {v : Value} (hv : VRep G h w n v .nils) : v = .slice none 0 0 := by cases n <;> (unfold VRep at hv; exact hv)
theorem rep_slc {n : Nat} {v : Value} {es : List PV} (hv : VRep G h w n v (.slc es)) : PR G.Z w v (.slc es) := by cases n <;> (unfold VRep at hv; exact hv)
theorem rep_agg {v : Value} {cs : List PV} (hv : VRep G h w D v (.agg cs)) : ∃ vs, v = .agg vs ∧ LRep (VRep G h w 5) vs cs := by unfold D at hv; unfold VRep at hv; exact hv
theorem rep_tup {v : Value} {cs : List PV} (hv : VRep G h w D v (.tup cs)) : ∃ vs, v = .tuple vs ∧ LRep (VRep G h w 5) vs cs := by unfold D at hv; unfold VRep at hv; exact hv
theorem rep_fn {v : Value} {f : Fn} {a b : List PV} (hv : VRep G h w D v (.fn f a b)) : ∃ vs us, v = .func f vs us ∧ LRep (VRep G h w 5) vs a ∧ LRep (VRep G h w 5) us b := by unfold D at hv; unfold VRep at hv; exact hv
theorem mk_bool {n : Nat} {b : Bool} : VRep G h w n (.bool b) (.bool b) := by cases n <;> (unfold VRep; rfl)
theorem mk_int {n : Nat} {k : IntKind} {i : Int} : VRep G h w n (.int k i) (.int k i) := by cases n <;> (unfold VRep; rfl)
theorem mk_str {n : Nat} {s : ByteArray} : VRep G h w n (.string s) (.str s) := by cases n <;> (unfold VRep; rfl)
theorem mk_nils {n : Nat} : VRep G h w n (.slice none 0 0) .nils := by cases n <;> (unfold VRep; rfl)
theorem mk_undef {n : Nat} {v : Value} : VRep G h w n v .undef := by cases n <;> (unfold VRep; trivial)
theorem mk_slc {n : Nat} {v : Value} {es : List PV} (hp : PR G.Z w v (.slc es)) : VRep G h w n v (.slc es) := by cases n <;> (unfold VRep; exact hp)
theorem mk_mlit {n : Nat} {v : Value} {ks vs : List PV} (hp : PR G.Z w v (.mlit ks vs)) : VRep G h w n v (.mlit ks vs) := by cases n <;> (unfold VRep; exact hp)
theorem rep_mlit {n : Nat} {v : Value} {ks vs : List PV} (hv : VRep G h w n v (.mlit ks vs)) : PR G.Z w v (.mlit ks vs) := by cases n <;> (unfold VRep at hv; exact hv)
theorem mk_agg {vs : Array Value} {cs : List PV} (hp : LRep (VRep G h w 5) vs cs) : VRep G h w D (.agg vs) (.agg cs) := by unfold D; unfold VRep; exact ⟨vs, rfl, hp⟩
theorem rep_up {v : Value} {p : PV} (hv : VRep G h w 5 v p) : VRep G h w D v p := hv.up
theorem one_plain {c : PV} (ho : one c = true) : (∀ cs, c ≠ .agg cs) ∧ (∀ cs, c ≠ .tup cs) ∧ ∀ f a b, c ≠ .fn f a b := by
  refine ⟨fun cs e => ?_, fun cs e => ?_, fun f a b e => ?_⟩ <;> (subst e; simp [one] at ho)
theorem one_cell {n m : Nat} {v : Value} {c : PV} (ho : one c = true) (hv : VRep G h w n v c) : VRep G h w m v c := hv.cell (one_plain ho)
/-- what is read out of memory that nobody writes to -/
theorem prep_vrep {v : Value} {c : PV} (ho : one c = true) (hp : PR G.Z w v c) : VRep G h w D v c := by
  cases c
  case slc es => exact mk_slc hp
  case mlit ks vs => unfold D; unfold VRep; exact hp
  all_goals
    obtain ⟨n, hp⟩ := hp
    first
      | (cases n <;> (unfold PRep at hp; unfold D; unfold VRep; exact hp))
      | (cases n <;> (unfold PRep at hp; exact hp.elim))
      | (simp [one] at ho)

/-! arithmetic -/
theorem snd_bin {op : BinOp} {t : TypeId} {x y : Operand} {a b : Value} {p q r : PV} (ha : VRep G h w D a p) (hb : VRep G h w D b q) (hk : binP op (boolT P t) p q = some r) :
    ∃ v, (do eqGuard op t x y a b; Go.binOp op t a b : Sem Value).run P w = .ok v w ∧ VRep G h w D v r := by
  cases p <;> cases q <;> (try (simp [binP] at hk; done))
  case int.int k i k' j =>
    obtain rfl := rep_int ha
    obtain rfl := rep_int hb
    have hg : (eqGuard op t x y (.int k i) (.int k' j)).run P w = .ok () w := by unfold eqGuard; cases op <;> simp
    simp only [Sem.run_bind, hg, Result.andThen_ok]
    cases op <;> simp only [binP] at hk <;> simp only [Go.binOp]
    case shl =>
      split at hk
      · cases hk
      · cases hk; rename_i hn; refine ⟨_, ?_, mk_int⟩; simp [Op.shift, hn]
    case shr =>
      split at hk
      · cases hk
      · cases hk; rename_i hn; refine ⟨_, ?_, mk_int⟩; simp [Op.shift, hn]
    case quo | rem =>
      split at hk
      · rename_i hkk
        subst hkk
        split at hk
        · cases hk
        · cases hk; rename_i hn; refine ⟨_, ?_, mk_int⟩; simp [Op.intDiv, hn]
      · cases hk
    case eql | neq | lss | leq | gtr | geq =>
      split at hk
      · rename_i hkk
        subst hkk
        cases hk; refine ⟨_, ?_, mk_bool⟩; simp [Op.intCmp]
      · cases hk
    all_goals
      split at hk
      · rename_i hkk
        subst hkk
        cases hk; refine ⟨_, ?_, mk_int⟩; simp [Op.intArith, Op.intBits, andI, orI, xorI, andNotI]
      · cases hk
  case bool.bool i j =>
    obtain rfl := rep_bool ha
    obtain rfl := rep_bool hb
    have hg : (eqGuard op t x y (.bool i) (.bool j)).run P w = .ok () w := by unfold eqGuard; cases op <;> simp
    simp only [Sem.run_bind, hg, Result.andThen_ok]
    simp only [binP] at hk
    split at hk
    · cases hk
    · rename_i hbt
      have hu : P.underlying t = some .bool := by
        unfold boolT at hbt
        split at hbt
        · assumption
        · simp at hbt
      have he := run_equal_bool (P := P) w t i j hu
      cases op <;> simp at hk <;> subst hk <;> simp only [Go.binOp] <;> (refine ⟨_, ?_, mk_bool⟩; simp [he]; try (first | rfl | (cases i <;> cases j <;> rfl)))
  case str.str i j =>
    obtain rfl := rep_str ha
    obtain rfl := rep_str hb
    have hg : (eqGuard op t x y (.string i) (.string j)).run P w = .ok () w := by unfold eqGuard; cases op <;> simp
    simp only [Sem.run_bind, hg, Result.andThen_ok]
    cases op <;> simp only [binP] at hk <;> (try (cases hk; done)) <;> simp only [Go.binOp]
    case add =>
      split at hk
      · cases hk
      · cases hk; rename_i hn; exact ⟨_, by simp only [Op.stringOp, hn, if_false]; rfl, mk_str⟩
    all_goals (cases hk; exact ⟨_, by simp only [Op.stringOp]; rfl, mk_bool⟩)
theorem snd_un {op : UnOp} {a : Value} {p r : PV} (ha : VRep G h w D a p) (hk : unP op p = some r) : ∃ v, (Op.unary op a).run P w = .ok v w ∧ VRep G h w D v r := by
  cases p <;> (try (simp [unP] at hk; done))
  case bool b => obtain rfl := rep_bool ha; cases op <;> simp [unP] at hk; subst hk; refine ⟨_, ?_, mk_bool⟩; simp [Op.unary]
  case int k n => obtain rfl := rep_int ha; cases op <;> simp [unP] at hk; subst hk; refine ⟨_, ?_, mk_int⟩; simp [Op.unary, Op.intArith]

/-! reading cells -/
/-- from (b, o) on lie cs -/
def CSeg (R : Nat → Value → PV → Prop) (w : World) (b o : Nat) (cs : List PV) : Prop := ∀ (j : Nat) c, cs[j]? = some c → ∃ u, w.cell? ⟨b, o + j, none⟩ = some u ∧ R j u c
theorem run_load_agg {t : TypeId} {sz b o : Nat} (hi : infoA P t = some true) (hs : sizeA P t = some sz) (f : Nat → Value) (hc : ∀ j, j < sz → w.cell? ⟨b, o + j, none⟩ = some (f j)) :
    (Instr.loadAt t (.pointer (some ⟨b, o, none⟩))).run P w = .ok (.agg ((List.range sz).map f).toArray) w := by
  unfold infoA at hi
  unfold sizeA at hs
  obtain ⟨i, hi1, rfl⟩ := Option.map_eq_some_iff.1 hs
  have hl := run_loadCells (P := P) w ⟨b, o, none⟩ i.size f (fun j hj => by rw [Addr.add_lit]; exact hc j hj)
  split at hi <;> rename_i hu
  · simp [Instr.loadAt, Instr.sureAddr, loadVar, isAgg, run_underlying hu, sizeOf, typeInfo, hi1, hl]
  · simp [Instr.loadAt, Instr.sureAddr, loadVar, isAgg, run_underlying hu, sizeOf, typeInfo, hi1, hl]
  · simp at hi
  · simp at hi
theorem run_load_cell {t : TypeId} {b o : Nat} {v : Value} (hi : infoA P t = some false) (hc : w.cell? ⟨b, o, none⟩ = some v) :
    (Instr.loadAt t (.pointer (some ⟨b, o, none⟩))).run P w = .ok v w := by
  unfold infoA at hi
  split at hi
  · simp at hi
  · simp at hi
  · rename_i d h1 h2 hu
    have : (isAgg t).run P w = .ok false w := by
      unfold isAgg
      simp only [Sem.run_bind, run_underlying hu, Result.andThen_ok]
      cases d <;> first | rfl | exact absurd rfl (h1 _) | exact absurd rfl (h2 _ _)
    simp [Instr.loadAt, Instr.sureAddr, loadVar, this, run_load, hc]
  · simp at hi
theorem snd_load {R : Nat → Value → PV → Prop} {t : TypeId} {agg : Bool} {sz b o off : Nat} {cs : List PV} {r : PV} (hi : infoA P t = some agg) (hs : sizeA P t = some sz) (hc : CSeg R w b o cs) (hk : takeE agg sz cs off = some r) :
    ∃ v, (Instr.loadAt t (.pointer (some ⟨b, o + off, none⟩))).run P w = .ok v w ∧ (agg = false → R off v r ∧ cs[off]? = some r) ∧ (agg = true → ∃ vs, v = .agg vs ∧ r = .agg ((cs.drop off).take sz) ∧ (vs.size = sz ∧ ∀ (j : Nat) c, ((cs.drop off).take sz)[j]? = some c → ∃ u, vs[j]? = some u ∧ R (off + j) u c) ∧ ((cs.drop off).take sz).length = sz) := by
  cases agg with
  | false =>
    simp only [takeE, Bool.false_eq_true, if_false] at hk
    obtain ⟨u, h1, h2⟩ := hc off r hk
    exact ⟨u, run_load_cell hi h1, fun _ => ⟨h2, hk⟩, fun e => by cases e⟩
  | true =>
    simp only [takeE, if_true] at hk
    split at hk
    · rename_i hle
      cases hk
      have hlen : ((cs.drop off).take sz).length = sz := by simp; omega
      have hall : ∀ j, j < sz → ∃ u, w.cell? ⟨b, o + off + j, none⟩ = some u ∧ ∃ c, ((cs.drop off).take sz)[j]? = some c ∧ R (off + j) u c := fun j hj => by
        obtain ⟨c, hc'⟩ : ∃ c, cs[off + j]? = some c := ⟨cs[off + j], List.getElem?_eq_getElem (by omega)⟩
        obtain ⟨u, h1, h2⟩ := hc (off + j) c hc'
        refine ⟨u, by rw [Nat.add_assoc]; exact h1, c, ?_, h2⟩
        rw [List.getElem?_take, if_pos hj, List.getElem?_drop]; exact hc'
      have hr := run_load_agg (P := P) (w := w) (t := t) (b := b) (o := o + off) hi hs (fun j => (w.cell? ⟨b, o + off + j, none⟩).getD undef) (fun j hj => by obtain ⟨u, h1, _⟩ := hall j hj; rw [h1]; rfl)
      refine ⟨_, hr, fun e => absurd e (by simp), fun _ => ⟨_, rfl, rfl, ⟨by simp, fun j c hj => ?_⟩, hlen⟩⟩
      have hjs : j < sz := by rw [← hlen]; exact (List.getElem?_eq_some_iff.1 hj).1
      obtain ⟨u, h1, c', h2, h3⟩ := hall j hjs
      rw [h2] at hj; cases hj
      refine ⟨u, ?_, h3⟩
      simp [hjs, h1]
    · cases hk
end
end Go.Proofs.Ytgdcogoacnghkaa.Am
/-
  .. operations that leave memory alone, further ones: addresses, slices, parts of values.
-/
namespace Go.Proofs.Ytgdcogoacnghkaa.Am
set_option linter.unusedSimpArgs false
set_option linter.unusedVariables false
set_option linter.unusedSectionVars false
open Go.RowKit
section
variable {P : Program} {B : Nat} {Z0 : Nat → Prop} {G : Gh} {h : Heap} {w : World}
theorem sizeA_some {t : TypeId} {s : Nat} (hs : sizeA P t = some s) : ∃ i, P.info? t = some i ∧ i.size = s := Option.map_eq_some_iff.1 hs
theorem fieldA_some {t : TypeId} {f : Nat} {fd : Field} (hs : fieldA P t f = some fd) : ∃ fs, P.underlying t = some (.struct fs) ∧ fs[f]? = some fd := by
  unfold fieldA at hs
  split at hs
  · exact ⟨_, by assumption, hs⟩
  · cases hs
theorem elemA_some {t e : TypeId} (hs : elemA P t = some e) : P.underlying t = some (.slice e) := by
  unfold elemA at hs
  split at hs
  · cases hs; assumption
  · cases hs

theorem snd_addrOff {v : Value} {p q : PV} {off : Nat} (hv : VRep G h w D v p) (hk : addrOff off p = some q) : ∃ b o, v = .pointer (some ⟨b, o, none⟩) ∧ VRep G h w D (.pointer (some ⟨b, o + off, none⟩)) q := by
  cases p <;> (try (simp [addrOff] at hk; done))
  case ptr k g o =>
    simp only [addrOff, Option.some.injEq] at hk; subst hk
    unfold D at hv ⊢; unfold VRep at hv ⊢
    obtain ⟨b, rfl, gn, ob, h1, h2, h3⟩ := hv
    exact ⟨b, o, rfl, b, rfl, gn, ob, h1, h2, h3⟩
  case eptr k g gl s i j =>
    simp only [addrOff, Option.some.injEq] at hk; subst hk
    unfold D at hv ⊢; unfold VRep at hv ⊢
    obtain ⟨b, f, rfl, gn, ob, h1, h2, h3⟩ := hv
    refine ⟨b, f, rfl, b, f + off, rfl, gn, ob, h1, h2, fun e sz ver fr es e2 => ?_⟩
    obtain ⟨h4, h5⟩ := h3 e sz ver fr es e2
    refine ⟨h4, fun e3 => ?_⟩
    obtain ⟨h6, h7, h8⟩ := h5 e3
    exact ⟨h6, fun e4 => by rw [h7 e4]; omega, h8⟩
  case nptr k g ver s i j m l =>
    simp only [addrOff, Option.some.injEq] at hk; subst hk
    unfold D at hv ⊢; unfold VRep at hv ⊢
    obtain ⟨b, f, rfl, gn, ob, h1, h2, h3⟩ := hv
    refine ⟨b, f, rfl, b, f + off, rfl, gn, ob, h1, h2, fun e sz vr fr es e2 => ?_⟩
    obtain ⟨h4, h5⟩ := h3 e sz vr fr es e2
    refine ⟨h4, fun e3 => ?_⟩
    obtain ⟨ns, hc, h6, h7, h8⟩ := h5 e3
    exact ⟨ns, hc, h6, fun e4 => by rw [h7 e4]; omega, h8⟩
  case fptr cs =>
    simp only [addrOff] at hk
    split at hk
    · cases hk
      unfold D at hv ⊢; unfold VRep at hv ⊢
      obtain ⟨b, o, rfl, h1, h2⟩ := hv
      refine ⟨b, o, rfl, b, o + off, rfl, h1, fun j c hc => ?_⟩
      rw [List.getElem?_drop] at hc
      obtain ⟨h3, u, h4, h5⟩ := h2 (off + j) c hc
      exact ⟨h3, u, by rw [Nat.add_assoc]; exact h4, h5⟩
    · cases hk
theorem run_fieldAt {s : TypeId} {f : Nat} {fd : Field} {z b o : Nat} (h1 : fieldA P s f = some fd) (h2 : sizeA P fd.type = some z) (h3 : z ≠ 0) :
    (Instr.fieldAt s (.pointer (some ⟨b, o, none⟩)) f).run P w = .ok (.pointer (some ⟨b, o + fd.offset, none⟩)) w := by
  obtain ⟨fs, hu, hf⟩ := fieldA_some h1
  obtain ⟨i, hi, rfl⟩ := sizeA_some h2
  simp [Instr.fieldAt, run_underlying hu, hf, Instr.sureAddr, fieldPlace, sizeOf, typeInfo, hi, h3, Addr.add_lit]
theorem run_indexAt {t e : TypeId} {z b f l c : Nat} {k : IntKind} {n : Int} (hu : P.underlying t = some (.slice e)) (hz : sizeA P e = some z) (h0 : 0 ≤ n) (hl : n < l) :
    (Instr.indexAt t (.slice (some ⟨b, f, none⟩) l c) (.int k n)).run P w = .ok (.pointer (some ⟨b, f + n.toNat * z, none⟩)) w := by
  obtain ⟨i, hi, rfl⟩ := sizeA_some hz
  simp [Instr.indexAt, run_underlying hu, asIntOf, sizeOf, typeInfo, hi, h0, hl, Addr.add_lit]
theorem run_indexAtA {t e : TypeId} {z b f m : Nat} {k : IntKind} {n : Int} (hu : P.underlying t = some (.array m e)) (hz : sizeA P e = some z) (h0 : 0 ≤ n) (hl : n < m) :
    (Instr.indexAt t (.pointer (some ⟨b, f, none⟩)) (.int k n)).run P w = .ok (.pointer (some ⟨b, f + n.toNat * z, none⟩)) w := by
  obtain ⟨i, hi, rfl⟩ := sizeA_some hz
  simp [Instr.indexAt, run_underlying hu, asIntOf, Instr.sureAddr, sizeOf, typeInfo, hi, h0, hl, Addr.add_lit]
theorem snd_idx {t e : TypeId} {z : Nat} {k : IntKind} {n : Int} {v : Value} {p q : PV} (hu : P.underlying t = some (.slice e)) (hz : sizeA P e = some z) (hv : VRep G h w D v p) (hk : idxA z p n = some q) :
    ∃ u, (Instr.indexAt t v (.int k n)).run P w = .ok u w ∧ VRep G h w D u q := by
  unfold idxA at hk
  split at hk
  · rename_i h0
    cases p <;> (try (simp at hk; done))
    case slc es =>
      simp only [] at hk
      split at hk
      · rename_i e' he
        split at hk
        · rename_i hl
          cases hk
          have hp := rep_slc hv
          obtain ⟨a, c, sz, rfl, h2, h3, h4, h5⟩ := PR.slc_iff.1 hp
          obtain ⟨h6, b, o, rfl, h8, h9⟩ := h5 _ _ he
          have hlt : n < es.length := by have := (List.getElem?_eq_some_iff.1 he).1; omega
          refine ⟨_, run_indexAt hu hz h0 hlt, ?_⟩
          unfold D; unfold VRep
          refine ⟨b, _, rfl, h8, fun j c hc => ?_⟩
          obtain ⟨h10, u, h11, h12⟩ := h9 j c hc
          refine ⟨h10, u, ?_, h12⟩
          rw [Nat.add_assoc, show z = sz by omega]; exact h11
        · cases hk
      · cases hk
    case own k2 g gl s o l =>
      simp only [] at hk
      split at hk
      · rename_i hl
        obtain ⟨hl, rfl⟩ := hl
        cases hk
        unfold D at hv; unfold VRep at hv
        obtain ⟨a, c, rfl, h1, h2, h3, gn, ob, h4, h5, h6⟩ := hv
        rcases h3 with ⟨rfl, rfl⟩ | ⟨b, f, rfl⟩
        · omega
        refine ⟨_, run_indexAt hu hz h0 hl, ?_⟩
        unfold D; unfold VRep
        refine ⟨b, _, rfl, gn, ob, h4, h5, fun e1 sz ver fr es e2 => ?_⟩
        obtain ⟨h7, h8⟩ := h6 e1 sz ver fr es e2
        refine ⟨h7, fun e3 => ?_⟩
        obtain ⟨h9, h10, h11⟩ := h8 e3
        by_cases hR : G.R (root k2)
        · obtain ⟨f', e4, h12, _⟩ := h10 hR
          cases e4
          refine ⟨rfl, fun e5 => ?_, by omega⟩
          rcases h12 with h12 | h12
          · omega
          · rw [h12 e5, Nat.add_zero, Nat.add_mul]
        · obtain ⟨e4, _⟩ := h11 hR
          cases e4
      · cases hk
    case nown k2 g ver ei ej o l =>
      simp only [] at hk
      split at hk
      · rename_i hl
        cases hk
        unfold D at hv; unfold VRep at hv
        obtain ⟨a, c, rfl, h1, h2, h3, gn, ob, h4, h5, h6⟩ := hv
        rcases h3 with ⟨rfl, rfl⟩ | ⟨b, f, rfl⟩
        · omega
        refine ⟨_, run_indexAt hu hz h0 hl, ?_⟩
        unfold D; unfold VRep
        refine ⟨b, _, rfl, gn, ob, h4, h5, fun e1 sz vr fr es e2 => ?_⟩
        obtain ⟨h7, h8⟩ := h6 e1 sz vr fr es e2
        refine ⟨h7, fun e3 => ?_⟩
        obtain ⟨ns, hc, h9, h10, h11⟩ := h8 e3
        by_cases hR : G.R (nest k2 ei ej)
        · obtain ⟨f', e4, h12⟩ := h10 hR
          cases e4
          refine ⟨ns, hc, rfl, fun e5 => ?_, by omega⟩
          rcases h12 with h12 | h12
          · omega
          · rw [h12, e5, Nat.add_zero, Nat.add_mul]
        · obtain ⟨e4, _⟩ := h11 hR
          cases e4
      · cases hk
  · cases hk
theorem snd_len {t ty : TypeId} {v : Value} {p : PV} {n : Nat} {st : Bool} (hu : if st then P.underlying t = some .string else ∃ e, P.underlying t = some (.slice e)) (hv : VRep G h w D v p) (hk : lenP st p = some n) :
    (Builtin.len_ #[t] ty #[v]).run P w = .ok (.int .i64 n) w := by
  unfold lenP at hk
  split at hk
  · cases hk
  rename_i hst
  cases p <;> (try (simp at hk; done)) <;> simp only [Option.some.injEq] at hk <;> subst hk
  case str s =>
    obtain rfl := rep_str hv
    obtain rfl : st = true := by simpa [isStr] using hst
    simp at hu
    simp [Builtin.len_, run_underlying hu, goInt]
  all_goals
    obtain rfl : st = false := by simpa [isStr] using hst
    simp at hu
    obtain ⟨e, he⟩ := hu
  case slc es =>
    have hp := rep_slc hv
    obtain ⟨a, c, sz, rfl, _⟩ := PR.slc_iff.1 hp
    simp [Builtin.len_, run_underlying he, goInt]
  case nils => obtain rfl := rep_nils hv; simp [Builtin.len_, run_underlying he, goInt]
  case lst => unfold D at hv; unfold VRep at hv; obtain ⟨a, c, rfl, _⟩ := hv; simp [Builtin.len_, run_underlying he, goInt]
  case own => unfold D at hv; unfold VRep at hv; obtain ⟨a, c, rfl, _⟩ := hv; simp [Builtin.len_, run_underlying he, goInt]
  case nown => unfold D at hv; unfold VRep at hv; obtain ⟨a, c, rfl, _⟩ := hv; simp [Builtin.len_, run_underlying he, goInt]
theorem asInt_some {p : PV} {n : Int} (hk : asInt p = some n) : ∃ k, p = .int k n := by cases p <;> simp [asInt] at hk; subst hk; exact ⟨_, rfl⟩
/-- an operand that need not be there -/
def OV (G : Gh) (h : Heap) (w : World) : Option Value → Option PV → Prop
  | none, none => True
  | some v, some p => VRep G h w D v p
  | _, _ => False
theorem run_sliceBounds {isS : Bool} {n cap : Nat} {lo hi mx : Option Value} {plo phi pmx : Option PV} {l u : Nat} (hn : n ≤ cap) (h1 : OV G h w lo plo) (h2 : OV G h w hi phi) (h3 : OV G h w mx pmx) (hk : sliceB n plo phi pmx = some (l, u)) :
    (Instr.sliceBounds isS n cap lo hi mx).run P w = .ok (l, u, if pmx.isSome then u else cap) w ∧ l ≤ u ∧ u ≤ n := by
  unfold sliceB at hk
  split at hk
  · rename_i hh ll eh el
    split at hk
    · rename_i hb
      obtain ⟨b1, b2, b3⟩ := hb
      have hlo : ∀ (code : BoundsCode), (match lo with | some v => Instr.sliceBound v hh.toNat code | none => pure 0 : Sem Nat).run P w = .ok ll.toNat w := fun code => by
        cases plo with
        | none => cases lo with
          | none => simp at el; subst el; rfl
          | some v => exact h1.elim
        | some p => cases lo with
          | none => exact h1.elim
          | some v =>
            obtain ⟨k, rfl⟩ := asInt_some el
            obtain rfl := rep_int h1
            have : ¬ (max hh 0 < ll) := by omega
            simp [Instr.sliceBound, asIntOf, b1, this]
            try omega
      have hhi : ∀ (y : Nat) (code : BoundsCode), n ≤ y ∨ hh ≤ y → (match hi with | some v => Instr.sliceBound v y code | none => pure n : Sem Nat).run P w = .ok hh.toNat w := fun y code hy => by
        cases phi with
        | none => cases hi with
          | none => simp at eh; subst eh; simp
          | some v => exact h2.elim
        | some p => cases hi with
          | none => exact h2.elim
          | some v =>
            obtain ⟨k, rfl⟩ := asInt_some eh
            obtain rfl := rep_int h2
            have c1 : 0 ≤ hh := by omega
            have c2 : hh ≤ (y : Int) := by omega
            simp [Instr.sliceBound, asIntOf, c1, c2]
      cases pmx with
      | none =>
        simp only [Option.some.injEq, Prod.mk.injEq] at hk
        obtain ⟨rfl, rfl⟩ := hk
        cases mx with
        | some v => exact h3.elim
        | none =>
          refine ⟨?_, by omega, by omega⟩
          have e1 := hhi cap (if isS then .sliceAcap else .sliceAlen) (.inl hn)
          have e2 := hlo .sliceB
          unfold Instr.sliceBounds
          simp only [Sem.run_bind, Sem.run_pure, Result.andThen_ok]
          cases hi with
          | none => simp at e1; simp [← e1]; cases lo with
            | none => simp at e2; simp [← e2]
            | some v => simp at e2; simp [e1, e2]
          | some x => simp at e1; simp [e1]; cases lo with
            | none => simp at e2; simp [← e2]
            | some v => simp at e2; simp [e2]
      | some p =>
        simp only at hk
        split at hk
        · rename_i hm
          obtain ⟨m1, m2⟩ := hm
          simp only [Option.some.injEq, Prod.mk.injEq] at hk
          obtain ⟨rfl, rfl⟩ := hk
          cases mx with
          | none => exact h3.elim
          | some v =>
            obtain ⟨k, rfl⟩ := asInt_some m2
            obtain rfl := rep_int h3
            have c1 : 0 ≤ hh := by omega
            have c2 : hh ≤ (cap : Int) := by omega
            refine ⟨?_, by omega, by omega⟩
            have e1 := hhi hh.toNat .slice3B (.inr (by omega))
            have e2 := hlo .slice3C
            cases phi with
            | none => simp at m1
            | some q => cases hi with
              | none => exact h2.elim
              | some x =>
                unfold Instr.sliceBounds
                simp at e1
                have e3 : ∀ code, (Instr.sliceBound (.int k hh) cap code).run P w = .ok hh.toNat w := fun code => by simp [Instr.sliceBound, asIntOf, c1, c2]
                simp [e3, e1]
                cases lo with
                | none => simp at e2; simp [← e2]
                | some v => simp at e2; simp [e2]
        · cases hk
    · cases hk
  · cases hk
theorem run_slice {t e : TypeId} {z n cap : Nat} {a : Option Addr} {lo hi mx : Option Value} {plo phi pmx : Option PV} {l u : Nat} (hu : P.underlying t = some (.slice e)) (hz : sizeA P e = some z) (hn : n ≤ cap)
    (h1 : OV G h w lo plo) (h2 : OV G h w hi phi) (h3 : OV G h w mx pmx) (hk : sliceB n plo phi pmx = some (l, u)) :
    (Instr.sliceAt t (.slice a n cap) lo hi mx).run P w = .ok (.slice (if (if pmx.isSome then u else cap) = l then a else a.map (·.add (l * z))) (u - l) ((if pmx.isSome then u else cap) - l)) w ∧ l ≤ u ∧ u ≤ n := by
  obtain ⟨i, hi', rfl⟩ := sizeA_some hz
  obtain ⟨hb, hl, hu'⟩ := run_sliceBounds (P := P) (isS := true) hn h1 h2 h3 hk
  refine ⟨?_, hl, hu'⟩
  simp [Instr.sliceAt, Instr.slice, run_underlying hu, hb, sizeOf, typeInfo, hi']
theorem snd_slice {t e : TypeId} {z : Nat} {v : Value} {p q : PV} {lo hi mx : Option Value} {plo phi pmx : Option PV} (hu : P.underlying t = some (.slice e)) (hz : sizeA P e = some z) (hv : VRep G h w D v p)
    (h1 : OV G h w lo plo) (h2 : OV G h w hi phi) (h3 : OV G h w mx pmx) (hk : sliceP false z p plo phi pmx = some q) :
    ∃ u, (Instr.sliceAt t v lo hi mx).run P w = .ok u w ∧ VRep G h w D u q := by
  unfold sliceP at hk
  split at hk
  · cases hk
  rename_i hst
  cases p <;> (try (simp at hk; done)) <;> simp only [] at hk
  case str s => simp [isStr] at hst
  case slc es =>
    have hp := rep_slc hv
    obtain ⟨a, c, sz, rfl, q2, q3, q4, q5⟩ := PR.slc_iff.1 hp
    split at hk
    · rename_i l u hb
      split at hk
      · rename_i hsz
        cases hk
        obtain ⟨hr, b1, b2⟩ := run_slice (P := P) (a := a) hu hz q2 h1 h2 h3 hb
        refine ⟨_, hr, mk_slc ?_⟩
        have hlen : ((es.drop l).take (u - l)).length = u - l := by simp; omega
        refine PR.slc_iff.2 ⟨_, _, sz, by rw [hlen], ?_, ?_, ?_, fun i e' he => ?_⟩
        · rw [hlen]; split <;> omega
        · split <;> omega
        · intro hnone
          cases a with
          | none => have := q4 rfl; split <;> omega
          | some a =>
            by_cases hml : (if pmx.isSome then u else c) = l
            · rw [hml]; omega
            · rw [if_neg hml] at hnone; simp at hnone
        · have hi2 : i < u - l := by rw [← hlen]; exact (List.getElem?_eq_some_iff.1 he).1
          rw [List.getElem?_take, if_pos hi2, List.getElem?_drop] at he
          obtain ⟨h6, b, o, rfl, h8, h9⟩ := q5 _ _ he
          refine ⟨h6, b, o + l * z, ?_, h8, fun j c' hc => ?_⟩
          · have : ¬ ((if pmx.isSome then u else c) = l) := by split <;> omega
            rw [if_neg this]; simp [Addr.add_lit]
          · obtain ⟨h10, v', h11, h12⟩ := h9 j c' hc
            refine ⟨h10, v', ?_, h12⟩
            have : l * z = l * sz := by
              rcases hsz with rfl | hsz
              · simp
              · have := List.all_eq_true.1 hsz e' (List.mem_of_getElem? he)
                have : (ecells e').length = z := by simpa using this
                rw [← this, h6]
            rw [this, Nat.add_assoc, ← Nat.add_assoc (l * sz), ← Nat.add_mul]; exact h11
      · cases hk
    · cases hk
  case own k2 g gl s o n =>
    split at hk
    · cases hk
    · rename_i hmx
      obtain rfl : pmx = none := by cases pmx <;> simp at hmx; rfl
      split at hk
      · rename_i l u hb
        split at hk
        · rename_i hzs
          subst hzs
          cases hk
          unfold D at hv; unfold VRep at hv
          obtain ⟨a, c, rfl, q2, q3, q4, gn, ob, h4, h5, h6⟩ := hv
          obtain ⟨hr, b1, b2⟩ := run_slice (P := P) (a := a) hu hz q2 h1 h2 h3 hb
          refine ⟨_, hr, ?_⟩
          simp only [Option.isSome_none, Bool.false_eq_true, if_false]
          unfold D; unfold VRep
          refine ⟨_, _, rfl, by omega, by omega, ?_, gn, ob, h4, h5, fun e1 sz ver fr es e2 => ?_⟩
          · rcases q4 with ⟨rfl, rfl⟩ | ⟨b, f, rfl⟩
            · exact .inl ⟨by simp, by omega⟩
            · refine .inr ?_
              split
              · exact ⟨b, f, rfl⟩
              · exact ⟨b, f + l * z, by simp [Addr.add_lit]⟩
          · obtain ⟨h7, h8⟩ := h6 e1 sz ver fr es e2
            refine ⟨h7, fun e3 => ?_⟩
            obtain ⟨h9, h10, h11⟩ := h8 e3
            refine ⟨by omega, fun hR => ?_, fun hR => ?_⟩
            · obtain ⟨f, rfl, h12, h13, h14⟩ := h10 hR
              by_cases hcl : c = l
              · exact ⟨f, by rw [if_pos hcl], .inl (by omega), by omega, by omega⟩
              · refine ⟨f + l * z, by rw [if_neg hcl]; simp [Addr.add_lit], .inr fun e5 => ?_, by omega, by omega⟩
                rcases h12 with h12 | h12
                · omega
                · rw [h12 e5, Nat.add_mul]
            · obtain ⟨rfl, rfl⟩ := h11 hR
              rcases q4 with ⟨_, rfl⟩ | ⟨b, f, q4⟩
              · exact ⟨by simp, by omega⟩
              · cases q4
        · cases hk
      · cases hk
  case nown k2 g ver i j o n =>
    split at hk
    · cases hk
    · rename_i hmx
      obtain rfl : pmx = none := by cases pmx <;> simp at hmx; rfl
      split at hk
      · rename_i l u hb
        split at hk
        · rename_i hl0
          subst hl0
          cases hk
          unfold D at hv; unfold VRep at hv
          obtain ⟨a, c, rfl, q2, q3, q4, gn, ob, h4, h5, h6⟩ := hv
          obtain ⟨hr, b1, b2⟩ := run_slice (P := P) (a := a) hu hz q2 h1 h2 h3 hb
          refine ⟨_, hr, ?_⟩
          simp only [Option.isSome_none, Bool.false_eq_true, if_false]
          have ha : (if c = 0 then a else a.map (·.add (0 * z))) = a := by
            split
            · rfl
            · rcases q4 with ⟨rfl, rfl⟩ | ⟨b, f, rfl⟩
              · rfl
              · simp [Addr.add_lit]
          rw [ha]
          unfold D; unfold VRep
          refine ⟨a, c - 0, rfl, by omega, by omega, ?_, gn, ob, h4, h5, fun e1 sz vr fr es e2 => ?_⟩
          · rw [Nat.sub_zero]; exact q4
          · obtain ⟨h7, h8⟩ := h6 e1 sz vr fr es e2
            refine ⟨h7, fun e3 => ?_⟩
            obtain ⟨ns, hc, h9, h10, h11⟩ := h8 e3
            rw [Nat.sub_zero]
            exact ⟨ns, hc, by omega, h10, h11⟩
        · cases hk
      · cases hk
  case nils =>
    split at hk
    · rename_i x hb
      obtain ⟨l, u⟩ := x
      cases hk
      obtain rfl := rep_nils hv
      obtain ⟨hr, b1, b2⟩ := run_slice (P := P) (a := none) hu hz (Nat.le_refl 0) h1 h2 h3 hb
      refine ⟨_, hr, ?_⟩
      obtain rfl : u = 0 := by omega
      obtain rfl : l = 0 := by omega
      simp
      exact mk_nils
    · cases hk
theorem snd_sliceS {t : TypeId} {v : Value} {p q : PV} {lo hi : Option Value} {mx : Option Value} {plo phi pmx : Option PV} (hu : P.underlying t = some .string) (hv : VRep G h w D v p)
    (h1 : OV G h w lo plo) (h2 : OV G h w hi phi) (h3 : OV G h w mx pmx) (hk : sliceP true 0 p plo phi pmx = some q) :
    ∃ u, (Instr.sliceAt t v lo hi mx).run P w = .ok u w ∧ VRep G h w D u q := by
  unfold sliceP at hk
  split at hk
  · cases hk
  rename_i hst
  cases p <;> (try (simp [isStr] at hst; done)) <;> simp only [] at hk
  case str s =>
    split at hk
    · cases hk
    · rename_i hmx
      obtain rfl : pmx = none := by cases pmx <;> simp at hmx; rfl
      obtain rfl : mx = none := by cases mx <;> simp [OV] at h3; rfl
      split at hk
      · rename_i l u hb
        cases hk
        obtain rfl := rep_str hv
        obtain ⟨hb, b1, b2⟩ := run_sliceBounds (P := P) (isS := false) (Nat.le_refl s.size) h1 h2 h3 hb
        refine ⟨_, ?_, mk_str⟩
        simp [Instr.sliceAt, Instr.slice, run_underlying hu, hb]
      · cases hk
end
end Go.Proofs.Ytgdcogoacnghkaa.Am
/-
  .. parts of values, and what is read out of memory.
-/
namespace Go.Proofs.Ytgdcogoacnghkaa.Am
set_option linter.unusedSimpArgs false
set_option linter.unusedVariables false
set_option linter.unusedSectionVars false
open Go.RowKit
theorem lk_some {h : Heap} {hide : List Nat} {k g : Nat} {ob : Ob} (hk : lkOf h hide k = (g, ob)) (hd : ob ≠ .dead) : h[k]? = some (g, ob) := by
  unfold lkOf at hk
  split at hk
  · simp only [Prod.mk.injEq] at hk; exact absurd hk.2.symm hd
  · rw [List.getD_eq_getElem?_getD] at hk
    cases hh : h[k]? with
    | none => rw [hh] at hk; simp only [Option.getD_none, Prod.mk.injEq] at hk; exact absurd hk.2.symm hd
    | some r => rw [hh] at hk; simp only [Option.getD_some] at hk; rw [hk]
theorem ldCs_get (k g ver i : Nat) : ∀ (cs : List PV) (j t : Nat), (ldCs k g ver i j cs)[t]? = (cs[t]?).map (ldC k g ver i (j + t))
  | [], j, t => by simp [ldCs]
  | c :: cs, j, 0 => by simp [ldCs]
  | c :: cs, j, t + 1 => by simp [ldCs, ldCs_get k g ver i cs (j + 1) t]; rw [show j + (t + 1) = j + 1 + t by omega]
theorem ldCs_length (k g ver i : Nat) : ∀ (cs : List PV) (j : Nat), (ldCs k g ver i j cs).length = cs.length
  | [], j => by simp [ldCs]
  | c :: cs, j => by simp [ldCs, ldCs_length k g ver i cs (j + 1)]
section
variable {P : Program} {B : Nat} {Z0 : Nat → Prop} {G : Gh} {h : Heap} {w : World}
theorem block_cell {b i : Nat} {us : Array Value} {T : TypeId} (hb : w.heap[b]? = some (.cells us T (0, 0))) : w.cell? ⟨b, i, none⟩ = us[i]? := by
  unfold World.cell?; simp only [hb]; rfl
theorem crep_ld {k g sz ver i j : Nat} {fr : Bool} {es : List PV} {u : Value} {c : PV} (hh : h[k]? = some (g, .arr sz ver fr es)) (hcell : cellAt es i j = some c) (hc : CRep G h w k i j u c) : VRep G h w D u (ldC k g ver i j c) ∧ one (ldC k g ver i j c) = true := by
  cases c
  case uslc ns =>
    unfold CRep NRep at hc
    refine ⟨?_, rfl⟩
    simp only [ldC]
    unfold D; unfold VRep
    by_cases hR : G.R (nest k i j)
    · obtain ⟨us, T, f, cc, rfl, h0, h2, h3, h3', h4, h5, h6, h7⟩ := hc.1 hR
      refine ⟨_, _, rfl, h2, by omega, .inr ⟨_, _, rfl⟩, g, _, hh, Nat.le_refl _, fun _ sz' vr fr' es' e => ?_⟩
      cases e
      refine ⟨Nat.le_refl _, fun _ => ⟨ns, hcell, by omega, fun _ => ⟨_, rfl, ?_⟩, fun x => absurd hR x⟩⟩
      simpa using h0
    · obtain ⟨rfl, rfl⟩ := hc.2 hR
      refine ⟨_, _, rfl, Nat.le_refl _, Nat.zero_le _, .inl ⟨rfl, rfl⟩, g, _, hh, Nat.le_refl _, fun _ sz' vr fr' es' e => ?_⟩
      cases e
      exact ⟨Nat.le_refl _, fun _ => ⟨[], hcell, Nat.zero_le _, fun x => absurd x hR, fun _ => ⟨rfl, rfl⟩⟩⟩
  all_goals (unfold CRep at hc; exact ⟨by simpa [ldC] using hc.2, by simpa [ldC] using hc.1⟩)
theorem agg_of {R : Nat → Value → PV → Prop} {vs : Array Value} {cs : List PV} {o sz : Nat} (hl : cs.length = sz) (hv : vs.size = sz ∧ ∀ (j : Nat) c, cs[j]? = some c → ∃ u, vs[j]? = some u ∧ R (o + j) u c)
    (hr : ∀ j u c, cs[j]? = some c → R (o + j) u c → one c = true ∧ VRep G h w D u c) : VRep G h w D (.agg vs) (.agg cs) := by
  refine mk_agg ⟨by rw [hv.1, hl], fun i c hc => ?_⟩
  obtain ⟨u, h1, h2⟩ := hv.2 i c hc
  obtain ⟨h3, h4⟩ := hr i u c hc h2
  exact ⟨u, h1, one_cell h3 h4⟩
theorem ob_at (hr : HRep B Z0 G h w) {k g sz ver : Nat} {fr : Bool} {es : List PV} {i : Nat} {e : PV} (hh : h[k]? = some (g, .arr sz ver fr es)) (he : es[i]? = some e) :
    G.R (root k) ∧ ∃ us T, w.heap[G.β (root k)]? = some (.cells us T (0, 0)) ∧ us.size = G.γ (root k) * sz ∧ (ecells e).length = sz ∧ ∀ (j : Nat) c, (ecells e)[j]? = some c → ∃ u, us[i * sz + j]? = some u ∧ CRep G h w k i j u c := by
  have ho := hr.ob k g _ hh
  unfold ORep at ho
  obtain ⟨_, _, _, h4, h5⟩ := ho
  by_cases hR : G.R (root k)
  · obtain ⟨us, T, h6, h7, h8⟩ := h4 hR
    exact ⟨hR, us, T, h6, h7, h8 i e he⟩
  · rw [h5 hR] at he; simp at he
theorem cellAt_some {es : List PV} {i j : Nat} {e c : PV} (he : es[i]? = some e) (hc : (ecells e)[j]? = some c) : cellAt es i j = some c := by simp [cellAt, he, hc]
theorem snd_loadP (hr : HRep B Z0 G h w) {hide : List Nat} {t : TypeId} {agg : Bool} {sz : Nat} {v : Value} {p r : PV} (hi : infoA P t = some agg) (hs : sizeA P t = some sz) (hv : VRep G h w D v p) (hk : loadP (lkOf h hide) agg sz p = some r) :
    ∃ u, (Instr.loadAt t v).run P w = .ok u w ∧ VRep G h w D u r := by
  cases p <;> (try (simp [loadP] at hk; done))
  case ptr k g o =>
    simp only [loadP] at hk
    split at hk
    · rename_i g' cs hlk
      split at hk
      · rename_i hg; subst hg
        have hh := lk_some hlk (by simp)
        unfold D at hv; unfold VRep at hv
        obtain ⟨b, rfl, gn, ob, h1, h2, h3⟩ := hv
        rw [hh] at h1; cases h1
        obtain rfl := h3 rfl cs rfl
        have ho := hr.ob k _ _ hh
        unfold ORep at ho
        obtain ⟨hR, us, T, h4, h5⟩ := ho
        have hcs : CSeg (fun _ v c => one c = true ∧ VRep G h w D v c) w (G.β (root k)) 0 cs := fun j c hc => by
          obtain ⟨u, h6, h7⟩ := h5.2 j c hc
          exact ⟨u, by rw [block_cell h4, Nat.zero_add]; exact h6, h7⟩
        obtain ⟨u, h6, h7, h8⟩ := snd_load (P := P) hi hs hcs hk
        rw [Nat.zero_add] at h6
        refine ⟨u, h6, ?_⟩
        cases agg with
        | false => exact (h7 rfl).1.2
        | true =>
          obtain ⟨vs, rfl, rfl, h9, h10⟩ := h8 rfl
          exact agg_of (o := o) (R := fun _ v c => one c = true ∧ VRep G h w D v c) h10 h9 fun _ _ _ _ x => x
      · cases hk
    · cases hk
  case eptr k g gl s i j =>
    simp only [loadP] at hk
    split at hk
    · rename_i g' s' ver fr es hlk
      split at hk
      · rename_i hg; obtain ⟨rfl, hgl, rfl⟩ := hg
        split at hk
        · rename_i e he
          have hh := lk_some hlk (by simp)
          unfold D at hv; unfold VRep at hv
          obtain ⟨b, f, rfl, gn, ob, h1, h2, h3⟩ := hv
          rw [hh] at h1; cases h1
          obtain ⟨_, h3⟩ := h3 rfl _ _ _ _ rfl
          obtain ⟨rfl, h4, _⟩ := h3 hgl
          have hf := h4 rfl
          obtain ⟨hR, us, T, h5, h6, h7, h8⟩ := ob_at hr hh he
          have hcs : CSeg (fun j v c => CRep G h w k i j v c) w (G.β (root k)) (i * s') (ecells e) := fun j c hc => by
            obtain ⟨u, h9, h10⟩ := h8 j c hc
            exact ⟨u, by rw [block_cell h5]; exact h9, h10⟩
          split at hk
          · rename_i cs htk
            split at hk
            · rename_i hag
              subst hag
              cases hk
              obtain ⟨u, h9, _, h11⟩ := snd_load (P := P) hi hs hcs htk
              obtain ⟨vs, rfl, hcs2, h12, h13⟩ := h11 rfl
              cases hcs2
              refine ⟨_, by rw [hf]; exact h9, ?_⟩
              refine agg_of (o := j) (sz := sz) (R := fun jj u c => VRep G h w D u c ∧ one c = true) ?_ ⟨h12.1, fun t c hc => ?_⟩ fun _ _ _ _ x => ⟨x.2, x.1⟩
              · rw [ldCs_length]; exact h13
              · rw [ldCs_get] at hc
                obtain ⟨c0, hc0, rfl⟩ := Option.map_eq_some_iff.1 hc
                obtain ⟨u, h14, h15⟩ := h12.2 t c0 hc0
                refine ⟨u, h14, ?_⟩
                rw [List.getElem?_take] at hc0
                split at hc0
                · rw [List.getElem?_drop] at hc0
                  exact crep_ld hh (cellAt_some he hc0) h15
                · cases hc0
            · cases hk
          · rename_i c hna htk
            cases hk
            obtain ⟨u, h9, h10, h11⟩ := snd_load (P := P) hi hs hcs htk
            cases agg with
            | true => obtain ⟨vs, _, hcs2, _⟩ := h11 rfl; exact absurd hcs2 (hna _)
            | false =>
              obtain ⟨h12, h13⟩ := h10 rfl
              exact ⟨u, by rw [hf]; exact h9, (crep_ld hh (cellAt_some he h13) h12).1⟩
          · cases hk
        · cases hk
      · cases hk
    · cases hk
  case nptr k g ver s i j m l =>
    simp only [loadP] at hk
    split at hk
    · rename_i g' sz0 ver' fr es hlk
      split at hk
      · rename_i hg; obtain ⟨rfl, rfl⟩ := hg
        split at hk
        · rename_i e he
          split at hk
          · rename_i ns hns
            split at hk
            · rename_i x hx
              split at hk
              · rename_i hxs
                have hh := lk_some hlk (by simp)
                unfold D at hv; unfold VRep at hv
                obtain ⟨b, f, rfl, gn, ob, h1, h2, h3⟩ := hv
                rw [hh] at h1; cases h1
                obtain ⟨_, h3⟩ := h3 rfl _ _ _ _ rfl
                obtain ⟨ns', hns', rfl, h4, hml⟩ := h3 rfl
                rw [cellAt_some he hns] at hns'; cases hns'
                obtain ⟨hR, us, T, h5, h6, h7, h8⟩ := ob_at hr hh he
                obtain ⟨u0, h9, h10⟩ := h8 j _ hns
                unfold CRep NRep at h10
                have hRn : G.R (nest k i j) := by
                  refine Classical.byContradiction fun hc => ?_
                  obtain ⟨_, rfl⟩ := h10.2 hc
                  simp at hx
                obtain ⟨us2, T2, ff, cc, rfl, h10', h11, h12, h12', h13, h14, h15, h16⟩ := h10.1 hRn
                obtain ⟨h17, h18⟩ := h16 m x hx
                have hf := h4 (by rw [← h17, hxs])
                have hcs : CSeg (fun _ v c => one c = true ∧ PR G.Z w v c) w (G.β (nest k i j)) (m * s) (ecells x) := fun t c hc => by
                  obtain ⟨h19, u, h20, h21⟩ := h18 t c hc
                  exact ⟨u, by rw [block_cell h13, ← hxs, h17]; exact h20, h19, h21⟩
                obtain ⟨u, h19, h20, h21⟩ := snd_load (P := P) hi hs hcs hk
                refine ⟨u, by rw [hf]; exact h19, ?_⟩
                cases agg with
                | false => exact prep_vrep (h20 rfl).1.1 (h20 rfl).1.2
                | true =>
                  obtain ⟨vs, rfl, rfl, h22, h23⟩ := h21 rfl
                  exact agg_of (o := l) (R := fun _ v c => one c = true ∧ PR G.Z w v c) h23 h22 fun _ _ _ _ x => ⟨x.1, prep_vrep x.1 x.2⟩
              · cases hk
            · cases hk
          · cases hk
        · cases hk
      · cases hk
    · cases hk
  case fptr cs =>
    simp only [loadP] at hk
    unfold D at hv; unfold VRep at hv
    obtain ⟨b, o, rfl, hz, h1⟩ := hv
    have hcs : CSeg (fun _ v c => one c = true ∧ PR G.Z w v c) w b o cs := fun j c hc => by
      obtain ⟨h2, u, h3, h4⟩ := h1 j c hc
      exact ⟨u, h3, h2, h4⟩
    obtain ⟨u, h2, h3, h4⟩ := snd_load (P := P) hi hs hcs hk
    rw [Nat.add_zero] at h2
    refine ⟨u, h2, ?_⟩
    cases agg with
    | false => exact prep_vrep (h3 rfl).1.1 (h3 rfl).1.2
    | true =>
      obtain ⟨vs, rfl, rfl, h5, h6⟩ := h4 rfl
      exact agg_of (o := 0) (R := fun _ v c => one c = true ∧ PR G.Z w v c) h6 h5 fun _ _ _ _ x => ⟨x.1, prep_vrep x.1 x.2⟩
end
end Go.Proofs.Ytgdcogoacnghkaa.Am
/-
  .. values that are put together.
-/
namespace Go.Proofs.Ytgdcogoacnghkaa.Am
set_option linter.unusedSimpArgs false
set_option linter.unusedVariables false
set_option linter.unusedSectionVars false
open Go.RowKit
theorem setAll_spec : ∀ (ds cs : List PV) (off : Nat), off + ds.length ≤ cs.length → (setAll cs off ds).length = cs.length ∧ ∀ t, (setAll cs off ds)[t]? = if off ≤ t ∧ t < off + ds.length then ds[t - off]? else cs[t]?
  | [], cs, off, _ => ⟨rfl, fun t => by rw [if_neg (by simp)]; rfl⟩
  | d :: ds, cs, off, h => by
    simp only [List.length_cons] at h
    obtain ⟨h1, h2⟩ := setAll_spec ds (cs.set off d) (off + 1) (by simp; omega)
    refine ⟨by simp [setAll, h1], fun t => ?_⟩
    simp only [setAll, h2, List.length_cons]
    by_cases ht : t = off
    · subst ht
      rw [if_neg (by omega), if_pos (by omega), List.getElem?_set_self (by omega)]; simp
    · by_cases h3 : off + 1 ≤ t ∧ t < off + 1 + ds.length
      · rw [if_pos h3, if_pos (by omega), show t - off = (t - (off + 1)) + 1 by omega]; rfl
      · rw [if_neg h3, if_neg (by omega), List.getElem?_set_ne (Ne.symm ht)]
theorem foldset_spec (off : Nat) : ∀ (vs : List Value) (n : Nat) (A : Array Value), off + n + vs.length ≤ A.size →
    (((vs.zipIdx n).foldl (fun (cs : Array Value) (x : Value × Nat) => cs.setIfInBounds (off + x.2) x.1) A).size = A.size ∧
      ∀ t, ((vs.zipIdx n).foldl (fun (cs : Array Value) (x : Value × Nat) => cs.setIfInBounds (off + x.2) x.1) A)[t]? = if off + n ≤ t ∧ t < off + n + vs.length then vs[t - (off + n)]? else A[t]?)
  | [], n, A, _ => ⟨rfl, fun t => by rw [if_neg (by simp)]; rfl⟩
  | v :: vs, n, A, h => by
    simp only [List.length_cons] at h
    obtain ⟨h1, h2⟩ := foldset_spec off vs (n + 1) (A.setIfInBounds (off + n) v) (by simp; omega)
    simp only [List.zipIdx_cons, List.foldl_cons]
    refine ⟨by rw [h1]; simp, fun t => ?_⟩
    rw [h2]
    simp only [List.length_cons]
    by_cases ht : t = off + n
    · subst ht
      rw [if_neg (by omega), if_pos (by omega), Array.getElem?_setIfInBounds]; simp; omega
    · by_cases h3 : off + (n + 1) ≤ t ∧ t < off + (n + 1) + vs.length
      · rw [if_pos h3, if_pos (by omega), show t - (off + n) = (t - (off + (n + 1))) + 1 by omega]; rfl
      · rw [if_neg h3, if_neg (by omega), Array.getElem?_setIfInBounds_ne (Ne.symm ht)]
theorem foldset_arr (off : Nat) (V A : Array Value) (h : off + V.size ≤ A.size) :
    (V.zipIdx.foldl (fun (cs : Array Value) (x : Value × Nat) => cs.setIfInBounds (off + x.2) x.1) A).size = A.size ∧
      ∀ t, (V.zipIdx.foldl (fun (cs : Array Value) (x : Value × Nat) => cs.setIfInBounds (off + x.2) x.1) A)[t]? = if off ≤ t ∧ t < off + V.size then V[t - off]? else A[t]? := by
  have := foldset_spec off V.toList 0 A (by simpa using h)
  rw [← Array.foldl_toList, Array.toList_zipIdx]
  simpa using this
section
variable {P : Program} {B : Nat} {Z0 : Nat → Prop} {G : Gh} {h : Heap} {w : World}
/-- the cells of a value -/
theorem vcells {v : Value} {p : PV} (hv : VRep G h w D v p) (ho : (ecells p).all one = true) : LRep (fun u c => one c = true ∧ VRep G h w D u c) v.cells (ecells p) := by
  cases p
  case agg cs =>
    obtain ⟨vs, rfl, h1, h2⟩ := rep_agg hv
    refine ⟨h1, fun i c hc => ?_⟩
    obtain ⟨u, h3, h4⟩ := h2 i c hc
    exact ⟨u, h3, List.all_eq_true.1 ho c (List.mem_of_getElem? hc), h4.up⟩
  case tup | fn | undef | uslc | lst => simp [ecells, one] at ho
  all_goals
    have hc : v.cells = #[v] := by
      have hv' := hv
      unfold D at hv'; unfold VRep at hv'
      first
        | exact hv'.2
        | (subst hv'; rfl)
        | (obtain ⟨rfl, hl⟩ := hv'; cases v <;> first | rfl | (simp [litOk] at hl))
        | (obtain ⟨a, c, sz, rfl, _⟩ := PR.slc_iff.1 hv'; rfl)
        | (obtain ⟨b, es, rfl, _⟩ := PR.mlit hv'; rfl)
        | (obtain ⟨a, c, rfl, _⟩ := hv'; rfl)
        | (obtain ⟨a, rfl, _⟩ := hv'; rfl)
    rw [hc]
    refine ⟨rfl, fun i c hi => ?_⟩
    have : i = 0 := by have := (List.getElem?_eq_some_iff.1 hi).1; simp [ecells] at this; exact this
    subst this
    simp [ecells] at hi
    subst hi
    exact ⟨v, rfl, rfl, hv⟩
theorem oneCell_of {u : Value} {c : PV} (ho : one c = true) (hv : VRep G h w D u c) : u.oneCell' = true := by
  cases c <;> (try (simp [one] at ho; done)) <;>
    (unfold D at hv; unfold VRep at hv
     first
      | exact hv.1
      | (subst hv; rfl)
      | (obtain ⟨rfl, hl⟩ := hv; cases u <;> first | rfl | (simp [litOk] at hl))
      | (obtain ⟨a, c, sz, rfl, _⟩ := PR.slc_iff.1 hv; rfl)
      | (obtain ⟨b, es, rfl, _⟩ := PR.mlit hv; rfl)
      | (obtain ⟨a, c, rfl, _⟩ := hv; rfl)
      | (obtain ⟨a, rfl, _⟩ := hv; rfl))
theorem ofC_rep {v : Value} {p : PV} (hk : ofC v = some p) : one p = true ∧ VRep G h w D v p := by
  unfold ofC at hk
  split at hk <;> (try cases hk)
  · exact ⟨rfl, mk_bool⟩
  · exact ⟨rfl, mk_int⟩
  · exact ⟨rfl, mk_str⟩
  · exact ⟨rfl, by unfold D; unfold VRep; exact ⟨rfl, rfl⟩⟩
  · exact ⟨rfl, mk_nils⟩
  · exact ⟨rfl, by unfold D; unfold VRep; exact ⟨rfl, rfl⟩⟩
  · exact ⟨rfl, by unfold D; unfold VRep; exact ⟨rfl, rfl⟩⟩
  · exact ⟨rfl, by unfold D; unfold VRep; exact ⟨rfl, rfl⟩⟩
theorem ofCs_rep : ∀ {l : List Value} {ps : List PV}, ofCs l = some ps → l.length = ps.length ∧ ps.all one = true ∧ ∀ (i : Nat) c, ps[i]? = some c → ∃ u, l[i]? = some u ∧ VRep G h w D u c
  | [], ps, hk => by simp [ofCs] at hk; subst hk; exact ⟨rfl, rfl, fun i c hc => by simp at hc⟩
  | v :: l, ps, hk => by
    simp only [ofCs] at hk
    split at hk
    · rename_i a b h1 h2
      cases hk
      obtain ⟨h3, h4⟩ := ofC_rep (G := G) (h := h) (w := w) h1
      obtain ⟨h5, h6, h7⟩ := ofCs_rep h2
      refine ⟨by simp [h5], by simp [h3, h6], fun i c hc => ?_⟩
      cases i with
      | zero => simp at hc; subst hc; exact ⟨v, rfl, h4⟩
      | succ i => exact h7 i c (by simpa using hc)
    · cases hk
theorem ofV_rep {v : Value} {p : PV} (hk : ofV v = some p) : VRep G h w D v p ∧ (ecells p).all one = true := by
  unfold ofV at hk
  split at hk
  · rename_i cs
    obtain ⟨ps, h1, rfl⟩ := Option.map_eq_some_iff.1 hk
    obtain ⟨h2, h3, h4⟩ := ofCs_rep (G := G) (h := h) (w := w) h1
    refine ⟨mk_agg ⟨by simpa using h2, fun i c hc => ?_⟩, h3⟩
    obtain ⟨u, h5, h6⟩ := h4 i c hc
    exact ⟨u, by simpa using h5, one_cell (List.all_eq_true.1 h3 c (List.mem_of_getElem? hc)) h6⟩
  · obtain ⟨h1, h2⟩ := ofC_rep (G := G) (h := h) (w := w) hk
    refine ⟨h2, ?_⟩
    cases p <;> first | (simpa [ecells] using h1) | (simp [one] at h1)
theorem zeroA_some {t : TypeId} {z : PV} (hk : zeroA P t = some z) : ∃ i v, P.info? t = some i ∧ i.zero = some v ∧ ofV v = some z := by
  unfold zeroA at hk
  split at hk
  · rename_i i hi
    split at hk
    · rename_i v hv; exact ⟨i, v, hi, hv, hk⟩
    · cases hk
  · cases hk
theorem run_zero {t : TypeId} {i : TypeInfo} {v : Value} (h1 : P.info? t = some i) (h2 : i.zero = some v) : (zeroValue t).run P w = .ok v w := by simp [zeroValue, typeInfo, h1, h2]

theorem snd_part {t : TypeId} {agg : Bool} {sz off : Nat} {vs : Array Value} {cs : List PV} {r : PV} (hi : infoA P t = some agg) (hs : sizeA P t = some sz) (hv : LRep (VRep G h w 5) vs cs) (hk : takeE agg sz cs off = some r) :
    ∃ u, (part t vs off).run P w = .ok u w ∧ VRep G h w D u r := by
  obtain ⟨i, hi1, rfl⟩ := sizeA_some hs
  unfold infoA at hi
  cases agg with
  | false =>
    simp only [takeE, Bool.false_eq_true, if_false] at hk
    obtain ⟨u, h1, h2⟩ := hv.2 off r hk
    refine ⟨u, ?_, h2.up⟩
    have : (isAgg t).run P w = .ok false w := by
      unfold isAgg
      split at hi
      · simp at hi
      · simp at hi
      · rename_i d g1 g2 hu
        simp only [Sem.run_bind, run_underlying hu, Result.andThen_ok]
        cases d <;> first | rfl | exact absurd rfl (g1 _) | exact absurd rfl (g2 _ _)
      · simp at hi
    simp [part, this, h1]
  | true =>
    simp only [takeE, if_true] at hk
    split at hk
    · rename_i hle
      cases hk
      have : (isAgg t).run P w = .ok true w := by
        unfold isAgg
        split at hi
        · rename_i hu; simp [run_underlying hu]
        · rename_i hu; simp [run_underlying hu]
        · simp at hi
        · simp at hi
      refine ⟨.agg (vs.extract off (off + i.size)), by simp [part, this, sizeOf, typeInfo, hi1], mk_agg ⟨?_, fun j c hc => ?_⟩⟩
      · simp [hv.1]; omega
      · have hj : j < i.size := by have := (List.getElem?_eq_some_iff.1 hc).1; simp at this; omega
        rw [List.getElem?_take, if_pos hj, List.getElem?_drop] at hc
        obtain ⟨u, h1, h2⟩ := hv.2 _ c hc
        refine ⟨u, ?_, h2⟩
        rw [Array.getElem?_extract, if_pos (by rw [hv.1]; omega)]; exact h1
    · cases hk
/-- the parts of a value, one after the other -/
inductive Parts (G : Gh) (h : Heap) (w : World) (place : Nat → Option (Nat × Nat)) : List (Nat × Value) → List (Nat × Nat × PV) → Prop
  | nil : Parts G h w place [] []
  | cons {i off sz v p l m} : place i = some (off, sz) → VRep G h w D v p → Parts G h w place l m → Parts G h w place ((i, v) :: l) ((off, sz, p) :: m)
theorem fill_rep {place : Nat → Option (Nat × Nat)} {R : Value → PV → Prop} (hR : ∀ u c, one c = true → VRep G h w D u c → R u c) {parts : List (Nat × Value)} {xs : List (Nat × Nat × PV)} (hp : Parts G h w place parts xs) : ∀ {A : Array Value} {cs cs' : List PV}, LRep R A cs → buildP cs xs = some cs' →
    ∃ A', Instr.fill place A parts = some A' ∧ LRep R A' cs' := by
  induction hp with
  | nil => intro A cs cs' hA hk; simp [buildP] at hk; subst hk; exact ⟨A, rfl, hA⟩
  | @cons i off sz v p l m h1 h2 h3 ih =>
    intro A cs cs' hA hk
    simp only [buildP] at hk
    split at hk
    · rename_i hc
      obtain ⟨c1, c2, c3⟩ := hc
      have hvc := vcells h2 c3
      have hsz : v.cells.size = sz := by rw [hvc.1, c1]
      obtain ⟨s1, s2⟩ := foldset_arr off v.cells A (by rw [hsz, hA.1]; exact c2)
      obtain ⟨t1, t2⟩ := setAll_spec (ecells p) cs off (by rw [c1]; exact c2)
      have hnew : LRep R (v.cells.zipIdx.foldl (fun (cs : Array Value) (x : Value × Nat) => cs.setIfInBounds (off + x.2) x.1) A) (setAll cs off (ecells p)) := by
        refine ⟨by rw [s1, t1, hA.1], fun t c ht => ?_⟩
        rw [t2] at ht
        rw [s2]
        split at ht
        · rename_i hr
          rw [if_pos (by rw [hsz, ← c1]; exact hr)]
          obtain ⟨u, g1, g2, g3⟩ := hvc.2 _ c ht
          exact ⟨u, g1, hR u c g2 g3⟩
        · rename_i hr
          rw [if_neg (by rw [hsz, ← c1]; exact hr)]
          exact hA.2 t c ht
      obtain ⟨A', h4, h5⟩ := ih hnew hk
      refine ⟨A', ?_, h5⟩
      simp only [Instr.fill, h1]
      have hcond : (decide (v.cells.size ≠ sz) || decide (off + v.cells.size > A.size)) = false := by
        have := hA.1
        simp [hsz]; omega
      simp only [hcond, Bool.false_eq_true, if_false]
      exact h4
    · cases hk
end
end Go.Proofs.Ytgdcogoacnghkaa.Am
/-
  .. operations that make memory.
-/
namespace Go.Proofs.Ytgdcogoacnghkaa.Am
set_option linter.unusedSimpArgs false
set_option linter.unusedVariables false
set_option linter.unusedSectionVars false
open Go.RowKit
def Gh.put (G : Gh) (k b γ0 : Nat) : Gh :=
  { β := fun key => if key.1 = k then b else G.β key, R := fun key => if key.1 = k then key.2 = none else G.R key, γ := fun key => if key.1 = k then γ0 else G.γ key, σ := G.σ, Z := G.Z }
section
variable {P : Program} {B : Nat} {Z0 : Nat → Prop} {G : Gh} {h : Heap} {w w' : World}
theorem lk_gen {hide : List Nat} {k g : Nat} {ob : Ob} (hn : hide.contains k = false) (hh : h[k]? = some (g, ob)) : (lkOf h hide k).1 = g := by
  unfold lkOf
  rw [List.getD_eq_getElem?_getD, hh, if_neg (by rw [hn]; simp)]; rfl
theorem put_other {k b γ0 k' : Nat} {y : Option (Nat × Nat)} (hk : k' ≠ k) : SameKey G (G.put k b γ0) (k', y) := by
  refine ⟨?_, ?_, ?_, rfl⟩ <;> simp [Gh.put, hk]
/-- A NEW OBJECT in place of the object k -/
theorem alloc_obj (hr : HRep B Z0 G h w) {k g : Nat} {old : Ob} (hh : h[k]? = some (g, old)) {ob : Obj} (hod : isD ob = true) {o' : Ob} (γ0 : Nat) (hw : w'.heap = w.heap.push ob)
    (hfr : frozenOb o' = true → ∀ y, (G.put k w.heap.size γ0).R (k, y) → (G.put k w.heap.size γ0).Z ((G.put k w.heap.size γ0).β (k, y)))
    (ho : Ext G h w (G.put k w.heap.size γ0) (h.set k (g + 1, o')) w' → ORep (G.put k w.heap.size γ0) (h.set k (g + 1, o')) w' k o') :
    HRep B Z0 (G.put k w.heap.size γ0) (h.set k (g + 1, o')) w' ∧ Ext G h w (G.put k w.heap.size γ0) (h.set k (g + 1, o')) w' := by
  have hk : k < h.length := (List.getElem?_eq_some_iff.1 hh).1
  have hold : ∀ b, b < w.heap.size → w'.heap[b]? = w.heap[b]? := fun b hb => by rw [hw, Array.getElem?_push, if_neg (by omega)]
  have x : Ext G h w (G.put k w.heap.size γ0) (h.set k (g + 1, o')) w' := by
    refine ⟨fun _ y => y, fun b hb => hold b (hr.zb b hb).lt, fun k' gn ob e => ?_⟩
    by_cases hkk : k' = k
    · subst hkk
      rw [hh] at e; cases e
      exact ⟨g + 1, o', List.getElem?_set_self hk, by omega, fun e => by omega⟩
    · exact ⟨gn, ob, by rw [List.getElem?_set_ne (Ne.symm hkk)]; exact e, Nat.le_refl _, fun _ => Keep.refl k' ob (put_other hkk) fun i j => put_other hkk⟩
  refine ⟨hr.update k (g + 1) o' hk x (fun k' y hkk => .inl (put_other hkk)) (fun k' y hkk hR => hold _ (hr.lv _ hR).2.lt) (by rw [hw]; simp) (fun b hb => (hr.zb b hb).eq (x.zw b hb)) (fun b hb => .inl hb) (fun _ _ _ _ hn => hn) (fun y hR => ?_) hfr (ho x), x⟩
  have hy : y = none := by simpa [Gh.put] using hR
  subst hy
  have hβ : (G.put k w.heap.size γ0).β (k, none) = w.heap.size := by simp [Gh.put]
  rw [hβ]
  refine ⟨hr.base, ⟨ob, by rw [hw]; simp, hod⟩, fun _ hz => by have := (hr.zb _ hz).lt; omega, fun y' hR' _ => ?_, fun k' y' hkk hR' => ?_⟩
  · have : y' = none := by simpa [Gh.put] using hR'
    exact this.symm
  · obtain ⟨a1, a2, _⟩ := put_other (G := G) (b := w.heap.size) (γ0 := γ0) (y := y') hkk
    rw [a1]
    have := (hr.lv _ (a2.1 hR')).2.lt; omega
theorem below_push (hr : HRep B Z0 G h w) (o : Obj) : Bl B w (w.alloc o) := (Bl.refl _ _).alloc hr.base o
theorem alloc_heap (o : Obj) : (w.alloc o).heap = w.heap.push o := rfl
/-- a variable -/
theorem good_var (hr : HRep B Z0 G h w) {hide : List Nat} {k : Nat} (hk : k < h.length ∧ hide.contains k = false) {us : Array Value} {T : TypeId} {cs : List PV} (hu : LRep (fun v c => one c = true ∧ VRep G h w D v c) us cs)
    {s : Sem Next} (hs : s.run P w = .ok (.value (.pointer (some ⟨w.heap.size, 0, none⟩))) (w.alloc (.cells us T))) :
    Good P B Z0 G h w s (.ptr k ((lkOf h hide k).1 + 1) 0) [(k, ((lkOf h hide k).1 + 1, .var cs))] := by
  obtain ⟨⟨g, old⟩, hh⟩ : ∃ r, h[k]? = some r := ⟨_, List.getElem?_eq_getElem hk.1⟩
  rw [lk_gen hk.2 hh]
  obtain ⟨h1, h2⟩ := alloc_obj (w' := w.alloc (.cells us T)) (o' := .var cs) hr hh (ob := .cells us T) rfl 0 rfl (fun e => by cases e) (fun x => by
    unfold ORep
    refine ⟨by simp [Gh.put], us, T, ?_, hu.mono fun v c y => ⟨y.1, y.2.ext x⟩⟩
    rw [show (G.put k w.heap.size 0).β (root k) = w.heap.size by simp [Gh.put]]
    exact heap_alloc_new w _)
  refine ⟨_, _, _, _, hs, .inl rfl, h1, h2, ?_, below_push hr _⟩
  unfold D; unfold VRep
  refine ⟨_, rfl, g + 1, .var cs, List.getElem?_set_self hk.1, Nat.le_refl _, fun _ cs' e => ?_⟩
  simp [Gh.put]
/-- an array -/
theorem good_arr (hr : HRep B Z0 G h w) {hide : List Nat} {k : Nat} (hk : k < h.length ∧ hide.contains k = false) {us : Array Value} {T : TypeId} {es : List PV} {sz cap : Nat} (hsz : 0 < sz) (hus : us.size = cap * sz) (hle : es.length ≤ cap) (hm : cap ≤ maxLen)
    (hu : ∀ (i : Nat) e, es[i]? = some e → (ecells e).length = sz ∧ ∀ (j : Nat) c, (ecells e)[j]? = some c → one c = true ∧ ∃ u, us[i * sz + j]? = some u ∧ VRep G h w D u c)
    {s : Sem Next} {w' : World} (hw : w'.heap = w.heap.push (.cells us T (0, 0))) (hb : Bl B w w') (hs : s.run P w = .ok (.value (.slice (some ⟨w.heap.size, 0, none⟩) es.length cap)) w') :
    Good P B Z0 G h w s (.own k ((lkOf h hide k).1 + 1) es.length sz 0 es.length) [(k, ((lkOf h hide k).1 + 1, .arr sz 0 false es))] := by
  obtain ⟨⟨g, old⟩, hh⟩ : ∃ r, h[k]? = some r := ⟨_, List.getElem?_eq_getElem hk.1⟩
  rw [lk_gen hk.2 hh]
  have hβ : (G.put k w.heap.size cap).β (root k) = w.heap.size := by simp [Gh.put]
  have hγ : (G.put k w.heap.size cap).γ (root k) = cap := by simp [Gh.put]
  have hR : (G.put k w.heap.size cap).R (root k) := by simp [Gh.put]
  obtain ⟨h1, h2⟩ := alloc_obj (w' := w') (o' := .arr sz 0 false es) hr hh (ob := .cells us T) rfl cap hw (fun e => by cases e) (fun x => by
    unfold ORep
    rw [hβ, hγ]
    refine ⟨hsz, hle, hm, fun _ => ⟨us, T, by rw [hw]; simp, hus, fun i e he => ?_⟩, fun hn => absurd hR hn⟩
    obtain ⟨h3, h4⟩ := hu i e he
    refine ⟨h3, fun j c hc => ?_⟩
    obtain ⟨h5, u, h6, h7⟩ := h4 j c hc
    refine ⟨u, h6, ?_⟩
    have h8 := h7.ext x
    cases c <;> first | (simp [one] at h5; done) | (unfold CRep; exact ⟨h5, h8⟩))
  refine ⟨_, _, _, _, hs, .inl rfl, h1, h2, ?_, hb⟩
  unfold D; unfold VRep
  refine ⟨_, _, rfl, hle, hm, .inr ⟨_, _, rfl⟩, g + 1, .arr sz 0 false es, List.getElem?_set_self hk.1, Nat.le_refl _, fun _ sz' ver fr es' e => ?_⟩
  cases e
  refine ⟨Nat.le_refl _, fun _ => ⟨by omega, fun _ => ⟨0, by rw [hβ], .inr (by simp), by omega, by rw [hγ]; omega⟩, fun hn => absurd hR hn⟩⟩

theorem lrep_one {v : Value} {z : PV} (hk : ofV v = some z) : LRep (fun u c => one c = true ∧ VRep G h w D u c) v.cells (ecells z) :=
  let x := ofV_rep (G := G) (h := h) (w := w) hk
  vcells x.1 x.2
theorem snd_alloc (hr : HRep B Z0 G h w) {hide : List Nat} {k : Nat} (hk : k < h.length ∧ hide.contains k = false) {t : TypeId} {z : PV} (hz : zeroA P t = some z) :
    Good P B Z0 G h w (do pure (.value (← Instr.alloc t true (.tuple #[])))) (.ptr k ((lkOf h hide k).1 + 1) 0) [(k, ((lkOf h hide k).1 + 1, .var (ecells z)))] := by
  obtain ⟨i, v, h1, h2, h3⟩ := zeroA_some hz
  refine good_var hr hk (T := t) (us := v.cells) (lrep_one h3) ?_
  simp [Instr.alloc, run_zero h1 h2, newVar, newRow]
theorem snd_box (hr : HRep B Z0 G h w) {hide : List Nat} {k : Nat} (hk : k < h.length ∧ hide.contains k = false) {t : TypeId} {v : Value} {p : PV} (hv : VRep G h w D v p) (ho : (ecells p).all one = true) :
    Good P B Z0 G h w (do pure (.value (← Instr.box t v))) (.ptr k ((lkOf h hide k).1 + 1) 0) [(k, ((lkOf h hide k).1 + 1, .var (ecells p)))] := by
  refine good_var hr hk (T := t) (us := v.cells) (vcells hv ho) ?_
  simp [Instr.box, newVar, newRow]
/-- the first n elements, all alike -/
theorem made_get {z : Array Value} {n i : Nat} (hz : 0 < z.size) (hi : i < n) : (madeCells z n)[i]? = z[i % z.size]? := by
  have hm : i % z.size < z.size := Nat.mod_lt _ hz
  simp [madeCells, hi, hm]
theorem mod_elem {i j sz : Nat} (hj : j < sz) : (i * sz + j) % sz = j := by
  rw [Nat.add_comm, Nat.add_mul_mod_self_right, Nat.mod_eq_of_lt hj]
theorem ecells_purE (e : PV) : ecells (purE e) = (ecells e).map purC := by cases e <;> rfl
theorem purC_one {u : Value} {c : PV} (ho : one c = true) (hv : VRep G h w D u c) : one (purC c) = true ∧ VRep G h w D u (purC c) := by
  by_cases hc : c = .nils
  · subst hc
    obtain rfl := rep_nils hv
    exact ⟨rfl, mk_slc (PR.slc_iff.2 ⟨none, 0, 0, rfl, Nat.le_refl _, Nat.zero_le _, fun _ => rfl, fun i e he => by simp at he⟩)⟩
  · have e : purC c = c := by cases c <;> first | rfl | exact absurd rfl hc
    rw [e]; exact ⟨ho, hv⟩
theorem snd_makeSlice (hr : HRep B Z0 G h w) {hide : List Nat} {k sz by_ : Nat} (hk : k < h.length ∧ hide.contains k = false) {t e : TypeId} {z : PV} {l c : Int} (hu : elemA P t = some e) (hs : sizeA P e = some sz) (hb : bytesA P e = some by_) (hz : zeroA P e = some z)
    (h0 : sz ≠ 0) (hzl : (ecells z).length = sz) (c1 : 0 ≤ l) (c2 : l ≤ c) (c3 : c * by_ ≤ 140737488355328) (c4 : c ≤ 9223372036854775807) :
    Good P B Z0 G h w (do pure (.value (← Instr.makeSlice t (.int .i64 l) (.int .i64 c)))) (.own k ((lkOf h hide k).1 + 1) l.toNat sz 0 l.toNat) [(k, ((lkOf h hide k).1 + 1, .arr sz 0 false (List.replicate l.toNat (purE z))))] := by
  obtain ⟨i, v, h1, h2, h3⟩ := zeroA_some hz
  obtain ⟨i', hi, rfl⟩ := sizeA_some hs
  rw [h1] at hi; cases hi
  have hby : i.bytes = by_ := by unfold bytesA at hb; rw [h1] at hb; simpa using hb
  have hle : (i.bytes : Int) * c ≤ 281474976710656 := by rw [hby, Int.mul_comm]; omega
  have hrun := run_make (P := P) w t e i v (elemA_some hu) h1 h2 .i64 .i64 l c c1 c2 hle c4
  have hlz := lrep_one (G := G) (h := h) (w := w) h3
  have hvs : v.cells.size = i.size := by rw [hlz.1, hzl]
  have := good_arr (P := P) hr (hide := hide) hk (us := madeCells v.cells (c.toNat * i.size)) (T := e) (es := List.replicate l.toNat (purE z)) (cap := c.toNat) (sz := i.size) (by omega) (size_madeCells _ _) (by simp; omega) (by unfold maxLen; omega)
    (fun a x hx => by
      have hx' := List.eq_of_mem_replicate (List.mem_of_getElem? hx)
      subst hx'
      have ha : a < l.toNat := by have := (List.getElem?_eq_some_iff.1 hx).1; simpa using this
      rw [ecells_purE]
      refine ⟨by simpa using hzl, fun j cc hj => ?_⟩
      rw [List.getElem?_map] at hj
      obtain ⟨c0, hj0, rfl⟩ := Option.map_eq_some_iff.1 hj
      obtain ⟨u, g1, g2, g3⟩ := hlz.2 j c0 hj0
      obtain ⟨g4, g5⟩ := purC_one g2 g3
      have hjs : j < i.size := by rw [← hzl]; exact (List.getElem?_eq_some_iff.1 hj0).1
      refine ⟨g4, u, ?_, g5⟩
      rw [made_get (by omega)]
      · rw [hvs, mod_elem hjs]; exact g1
      · have : (a + 1) * i.size ≤ c.toNat * i.size := Nat.mul_le_mul_right _ (by omega)
        rw [Nat.add_mul] at this; omega)
    (s := do pure (.value (← Instr.makeSlice t (.int .i64 l) (.int .i64 c)))) (w' := w.alloc (.cells (madeCells v.cells (c.toNat * i.size)) e)) rfl (below_push hr _) (by simp [hrun])
  simpa using this
/-- the elements of a list that is written out -/
inductive PartsI (G : Gh) (h : Heap) (w : World) : List (Nat × Value) → List (Nat × PV) → Prop
  | nil : PartsI G h w [] []
  | cons {i v p l m} : VRep G h w D v p → PartsI G h w l m → PartsI G h w ((i, v) :: l) ((i, p) :: m)
def ARep (G : Gh) (h : Heap) (w : World) (sz : Nat) (A : Array Value) (es : List PV) : Prop := A.size = es.length * sz ∧ ∀ (i : Nat) e, es[i]? = some e → (ecells e).length = sz ∧ ∀ (j : Nat) c, (ecells e)[j]? = some c → one c = true ∧ ∃ u, A[i * sz + j]? = some u ∧ VRep G h w D u c
theorem fill_arr {sz : Nat} (hsz : 0 < sz) {parts : List (Nat × Value)} {xs : List (Nat × PV)} (hp : PartsI G h w parts xs) : ∀ {A : Array Value} {es es' : List PV}, ARep G h w sz A es → mkarrP sz es xs = some es' →
    ∃ A', Instr.fill (fun i => some (i * sz, sz)) A parts = some A' ∧ ARep G h w sz A' es' ∧ es'.length = es.length := by
  induction hp with
  | nil => intro A es es' hA hk; simp [mkarrP] at hk; subst hk; exact ⟨A, rfl, hA, rfl⟩
  | @cons i v p l m h2 h3 ih =>
    intro A es es' hA hk
    simp only [mkarrP] at hk
    split at hk
    · rename_i hc
      obtain ⟨c1, c2, c3⟩ := hc
      have hvc := vcells h2 c3
      have hsz2 : v.cells.size = sz := by rw [hvc.1, c1]
      have hroom : i * sz + sz ≤ A.size := by
        rw [hA.1]
        have : (i + 1) * sz ≤ es.length * sz := Nat.mul_le_mul_right _ (by omega)
        rw [Nat.add_mul] at this; omega
      obtain ⟨s1, s2⟩ := foldset_arr (i * sz) v.cells A (by rw [hsz2]; exact hroom)
      have hnew : ARep G h w sz (v.cells.zipIdx.foldl (fun (cs : Array Value) (x : Value × Nat) => cs.setIfInBounds (i * sz + x.2) x.1) A) (es.set i p) := by
        refine ⟨by rw [s1, hA.1]; simp, fun t e ht => ?_⟩
        by_cases hti : t = i
        · subst hti
          rw [List.getElem?_set_self c2] at ht
          cases ht
          refine ⟨c1, fun j c hj => ?_⟩
          have hjs : j < sz := by rw [← c1]; exact (List.getElem?_eq_some_iff.1 hj).1
          obtain ⟨u, g1, g2, g3⟩ := hvc.2 j c hj
          refine ⟨g2, u, ?_, g3⟩
          rw [s2, if_pos (by omega), show t * sz + j - t * sz = j by omega]; exact g1
        · rw [List.getElem?_set_ne (Ne.symm hti)] at ht
          obtain ⟨g1, g2⟩ := hA.2 t e ht
          refine ⟨g1, fun j c hj => ?_⟩
          have hjs : j < sz := by rw [← g1]; exact (List.getElem?_eq_some_iff.1 hj).1
          obtain ⟨g3, u, g4, g5⟩ := g2 j c hj
          refine ⟨g3, u, ?_, g5⟩
          rw [s2, if_neg ?_]
          · exact g4
          · rw [hsz2]
            rintro ⟨q1, q2⟩
            rcases Nat.lt_or_gt_of_ne hti with hlt | hlt
            · have : (t + 1) * sz ≤ i * sz := Nat.mul_le_mul_right _ (by omega)
              rw [Nat.add_mul] at this; omega
            · have : (i + 1) * sz ≤ t * sz := Nat.mul_le_mul_right _ (by omega)
              rw [Nat.add_mul] at this; omega
      obtain ⟨A', h4, h5, h6⟩ := ih hnew hk
      refine ⟨A', ?_, h5, by simpa using h6⟩
      simp only [Instr.fill]
      have hcond : (decide (v.cells.size ≠ sz) || decide (i * sz + v.cells.size > A.size)) = false := by
        simp [hsz2]; omega
      simp only [hcond, Bool.false_eq_true, if_false]
      exact h4
    · cases hk
theorem run_buildSlice {sz n : Nat} {t e : TypeId} {z : PV} {parts : Array (Nat × Value)} {xs : List (Nat × PV)} {es : List PV} (hu : elemA P t = some e) (hs : sizeA P e = some sz) (hz : zeroA P e = some z)
    (h0 : sz ≠ 0) (hn : n * sz ≤ 16777216) (hzl : (ecells z).length = sz) (hp : PartsI G h w parts.toList xs) (hm : mkarrP sz (List.replicate n z) xs = some es) :
    ∃ A', (Instr.buildSlice t n parts).run P w = .ok (.slice (some ⟨w.heap.size, 0, none⟩) n n) (w.alloc (.cells A' e)) ∧ ARep G h w sz A' es ∧ es.length = n ∧ n ≤ 16777216 := by
  obtain ⟨i, v, h1, h2, h3⟩ := zeroA_some hz
  obtain ⟨i', hi, rfl⟩ := sizeA_some hs
  rw [h1] at hi; cases hi
  have hlz := lrep_one (G := G) (h := h) (w := w) h3
  have hvs : v.cells.size = i.size := by rw [hlz.1, hzl]
  have hA : ARep G h w i.size (madeCells v.cells (n * i.size)) (List.replicate n z) := by
    refine ⟨by rw [size_madeCells]; simp, fun a x hx => ?_⟩
    have hx' := List.eq_of_mem_replicate (List.mem_of_getElem? hx)
    subst hx'
    have ha : a < n := by have := (List.getElem?_eq_some_iff.1 hx).1; simpa using this
    refine ⟨hzl, fun j cc hj => ?_⟩
    obtain ⟨u, g1, g2, g3⟩ := hlz.2 j cc hj
    have hjs : j < i.size := by rw [← hzl]; exact (List.getElem?_eq_some_iff.1 hj).1
    refine ⟨g2, u, ?_, g3⟩
    rw [made_get (by omega)]
    · rw [hvs, mod_elem hjs]; exact g1
    · have : (a + 1) * i.size ≤ n * i.size := Nat.mul_le_mul_right _ (by omega)
      rw [Nat.add_mul] at this; omega
  obtain ⟨A', h4, h5, h6⟩ := fill_arr (by omega) hp hA hm
  have hlen : es.length = n := by simpa using h6
  have hrun : (Instr.buildSlice t n parts).run P w = .ok (.slice (some ⟨w.heap.size, 0, none⟩) n n) (w.alloc (.cells A' e)) := by
    have hlim : ¬ (16777216 < n * i.size) := by omega
    by_cases hz0 : n * i.size = 0
    · have hn0 : n = 0 := by
        rcases Nat.mul_eq_zero.1 hz0 with x | x
        · exact x
        · exact absurd x h0
      subst hn0
      have hmade : madeCells v.cells 0 = #[] := by simp [madeCells, Array.range_zero']
      rw [Nat.zero_mul, hmade] at h4
      have h4' : Instr.fill (fun x => some (x * i.size, i.size)) (Array.map (fun x => default) (Array.range 0)) parts.toList = some A' := by rw [← h4]; congr 1; simp [Array.range_zero']
      simp [Instr.buildSlice, run_underlying (elemA_some hu), sizeOf, typeInfo, h1, h4', newRow]
    · have hrz := run_zero (w := w) h1 h2
      simp only [madeCells] at h4
      simp [Instr.buildSlice, run_underlying (elemA_some hu), sizeOf, typeInfo, h1, hlim, hz0, hrz, h4, newRow]
  have hbound : n ≤ 16777216 := by
    have : n * 1 ≤ n * i.size := Nat.mul_le_mul_left _ (by omega)
    omega
  exact ⟨A', hrun, h5, hlen, hbound⟩
theorem snd_buildSlice (hr : HRep B Z0 G h w) {hide : List Nat} {k sz n : Nat} (hk : k < h.length ∧ hide.contains k = false) {t e : TypeId} {z : PV} {parts : Array (Nat × Value)} {xs : List (Nat × PV)} {es : List PV} (hu : elemA P t = some e) (hs : sizeA P e = some sz) (hz : zeroA P e = some z)
    (h0 : sz ≠ 0) (hn : n * sz ≤ 16777216) (hzl : (ecells z).length = sz) (hp : PartsI G h w parts.toList xs) (hm : mkarrP sz (List.replicate n z) xs = some es) :
    Good P B Z0 G h w (do pure (.value (← Instr.buildSlice t n parts))) (.own k ((lkOf h hide k).1 + 1) es.length sz 0 es.length) [(k, ((lkOf h hide k).1 + 1, .arr sz 0 false es))] := by
  obtain ⟨A', hrun, h5, hlen, hbound⟩ := run_buildSlice (P := P) hu hs hz h0 hn hzl hp hm
  exact good_arr (P := P) hr (hide := hide) hk (us := A') (T := e) (es := es) (cap := n) (sz := sz) (by omega) (by rw [h5.1, hlen]) (by omega) (by unfold maxLen; omega) h5.2 (w' := w.alloc (.cells A' e)) rfl (below_push hr _) (by simp [hrun, hlen])
/-- a new block that nobody writes to -/
theorem push_frozen (hr : HRep B Z0 G h w) (o : Obj) (hoc : ∃ us T x, o = .cells us T x) : HRep B Z0 { G with Z := fun b => G.Z b ∨ b = w.heap.size } h (w.alloc o) ∧ Ext G h w { G with Z := fun b => G.Z b ∨ b = w.heap.size } h (w.alloc o) := by
  have hold : ∀ b, b < w.heap.size → (w.alloc o).heap[b]? = w.heap[b]? := fun b hb => by
    rw [alloc_heap, Array.getElem?_push]; split
    · omega
    · rfl
  have hsz : (w.alloc o).heap.size = w.heap.size + 1 := by rw [alloc_heap]; simp
  have x : Ext G h w { G with Z := fun b => G.Z b ∨ b = w.heap.size } h (w.alloc o) :=
    ⟨fun _ y => .inl y, fun b hb => hold b (hr.zb b hb).lt, fun k gn ob e => ⟨gn, ob, e, Nat.le_refl _, fun _ => Keep.refl k ob ⟨rfl, Iff.rfl, rfl, rfl⟩ fun _ _ => ⟨rfl, Iff.rfl, rfl, rfl⟩⟩⟩
  refine ⟨⟨by rw [hsz]; have := hr.base; omega, ?_, ?_, fun key hk => ?_, ?_, fun k g o hh hfo y hR => .inl (hr.fz k g o hh hfo y hR), hr.inj, fun k g ob hh => ?_⟩, x⟩
  · rintro b (hb | rfl)
    · exact hr.zo b hb
    · exact .inr hr.base
  · rintro b (hb | rfl)
    · exact (hr.zb b hb).eq (hold b (hr.zb b hb).lt)
    · obtain ⟨us, T, x0, rfl⟩ := hoc
      exact isC.of (heap_alloc_new w _)
  · have := hr.lv key hk
    exact ⟨this.1, this.2.eq (hold _ this.2.lt)⟩
  · rintro k g ob hh hl y hR (hb | hb)
    · exact hr.nz k g ob hh hl y hR hb
    · have h1 := (hr.lv (k, y) hR).2.lt
      have hb' : G.β (k, y) = w.heap.size := hb
      omega
  · exact (hr.ob k g ob hh).ext x (fun y => ⟨rfl, Iff.rfl, rfl, rfl⟩) fun y hR => hold _ (hr.lv _ hR).2.lt
theorem purC_rep {u : Value} {c : PV} {Z' : Nat → Prop} (hz : ∀ b, G.Z b → Z' b) {w' : World} (hw : ∀ b, G.Z b → w'.heap[b]? = w.heap[b]?) (hp : pureC (purC c) = true) (hv : VRep G h w D u c) : one (purC c) = true ∧ PR Z' w' u (purC c) := by
  by_cases hc : c = .nils
  · subst hc
    obtain rfl := rep_nils hv
    exact ⟨rfl, PR.slc_iff.2 ⟨none, 0, 0, rfl, Nat.le_refl _, Nat.zero_le _, fun _ => rfl, fun i e he => by simp at he⟩⟩
  · have e : purC c = c := by cases c <;> first | rfl | exact absurd rfl hc
    rw [e] at hp ⊢
    refine ⟨by cases c <;> first | rfl | (simp [pureC] at hp), ?_⟩
    have hpr : PR G.Z w u c := by
      cases c <;> first | (simp [pureC] at hp; done) | exact rep_slc hv | (unfold D at hv; unfold VRep at hv; exact hv) | (unfold D at hv; unfold VRep at hv; exact ⟨0, by unfold PRep; exact hv⟩)
    exact hpr.mono hz hw
theorem snd_lit (hr : HRep B Z0 G h w) {sz n : Nat} {t e : TypeId} {z : PV} {parts : Array (Nat × Value)} {xs : List (Nat × PV)} {es : List PV} (hu : elemA P t = some e) (hs : sizeA P e = some sz) (hz : zeroA P e = some z)
    (h0 : sz ≠ 0) (hn : n * sz ≤ 16777216) (hzl : (ecells z).length = sz) (hp : PartsI G h w parts.toList xs) (hm : mkarrP sz (List.replicate n z) xs = some es) (hpu : es.all (fun e => (ecells (purE e)).all pureC) = true) :
    Good P B Z0 G h w (do pure (.value (← Instr.buildSlice t n parts))) (.slc (es.map purE)) [] := by
  obtain ⟨A', hrun, h5, hlen, hbound⟩ := run_buildSlice (P := P) hu hs hz h0 hn hzl hp hm
  obtain ⟨p1, p2⟩ := push_frozen hr (.cells A' e) ⟨_, _, _, rfl⟩
  refine ⟨.value (.slice (some ⟨w.heap.size, 0, none⟩) n n), _, w.alloc (.cells A' e), _, by simp [hrun], .inl rfl, p1, p2, mk_slc (PR.slc_iff.2 ⟨some ⟨w.heap.size, 0, none⟩, n, sz, by simp [hlen], by simp [hlen], by unfold maxLen; omega, by simp, fun i x hx => ?_⟩), below_push hr _⟩
  rw [List.getElem?_map] at hx
  obtain ⟨x0, hx0, rfl⟩ := Option.map_eq_some_iff.1 hx
  obtain ⟨g1, g2⟩ := h5.2 i x0 hx0
  rw [ecells_purE]
  refine ⟨by simpa using g1, _, _, rfl, .inr rfl, fun j c hc => ?_⟩
  rw [List.getElem?_map] at hc
  obtain ⟨c0, hc0, rfl⟩ := Option.map_eq_some_iff.1 hc
  obtain ⟨_, u, g3, g4⟩ := g2 j c0 hc0
  have hpc : pureC (purC c0) = true := by
    have h1 := List.all_eq_true.1 hpu x0 (List.mem_of_getElem? hx0)
    rw [ecells_purE] at h1
    exact List.all_eq_true.1 h1 _ (List.mem_map.2 ⟨c0, List.mem_of_getElem? hc0, rfl⟩)
  obtain ⟨g5, g6⟩ := purC_rep (Z' := fun b => G.Z b ∨ b = w.heap.size) (w' := w.alloc (.cells A' e)) (fun b hb => .inl hb) p2.zw hpc g4
  refine ⟨g5, u, ?_, g6⟩
  rw [block_cell (heap_alloc_new w _), Nat.zero_add]; exact g3
end
end Go.Proofs.Ytgdcogoacnghkaa.Am
/-
  .. slices of the call's own that move into an array; what is frozen.
-/
namespace Go.Proofs.Ytgdcogoacnghkaa.Am
set_option linter.unusedSimpArgs false
set_option linter.unusedVariables false
set_option linter.unusedSectionVars false
open Go.RowKit
section
variable {P : Program} {B : Nat} {Z0 : Nat → Prop} {G G' : Gh} {h h' : Heap} {w w' : World}
theorem vrep_pure {u : Value} {c : PV} (hp : pureC c = true) (hv : VRep G h w D u c) : PR G.Z w u c := by
  cases c <;> (try (simp [pureC] at hp; done))
  case slc es => exact rep_slc hv
  case mlit ks vs => unfold D at hv; unfold VRep at hv; exact hv
  all_goals (refine ⟨0, ?_⟩; unfold D at hv; unfold VRep at hv; unfold PRep; exact hv)
theorem pure_one {c : PV} (hp : pureC c = true) : one c = true := by cases c <;> simp [pureC] at hp <;> rfl
theorem NRep.ext (x : Ext G h w G' h' w') {key key' : Key} (hk : G'.β key' = G.β key ∧ (G'.R key' ↔ G.R key) ∧ G'.γ key' = G.γ key ∧ G'.σ key' = G.σ key) (hb : G.R key → w'.heap[G.β key]? = w.heap[G.β key]?) {u : Value} {ns : List PV} (hp : NRep G w key u ns) : NRep G' w' key' u ns := by
  unfold NRep at hp ⊢
  obtain ⟨a1, a2, a3, a4⟩ := hk
  rw [a1, a2, a3, a4]
  refine ⟨fun r => ?_, hp.2⟩
  obtain ⟨us, T, f, c, h1, h0, h2, h3, h3', h4, h5, h6, h7⟩ := hp.1 r
  refine ⟨us, T, f, c, h1, h0, h2, h3, h3', by rw [hb r]; exact h4, h5, h6, fun i e he => ?_⟩
  obtain ⟨h8, h9⟩ := h7 i e he
  refine ⟨h8, fun j c hc => ?_⟩
  obtain ⟨h10, v, h11, h12⟩ := h9 j c hc
  exact ⟨h10, v, h11, h12.mono x.zz x.zw⟩
/-- an array that lies in a cell, read as one that nobody writes to -/
theorem nrep_slc {Z' : Nat → Prop} (hz : ∀ b, G.Z b → Z' b) {key : Key} (hk : G.R key → Z' (G.β key)) {u : Value} {ns : List PV} (hp : NRep G w key u ns) : PR Z' w u (.slc ns) := by
  unfold NRep at hp
  by_cases hR : G.R key
  · obtain ⟨us, T, f, c, rfl, h0, h2, h3, h3', h4, h5, h6, h7⟩ := hp.1 hR
    refine PR.slc_iff.2 ⟨_, c, G.σ key, rfl, h2, by omega, fun e => absurd e (by simp), fun i e he => ?_⟩
    obtain ⟨h8, h9⟩ := h7 i e he
    have hi := (List.getElem?_eq_some_iff.1 he).1
    refine ⟨h8, _, _, rfl, hk hR, fun j cc hc => ?_⟩
    obtain ⟨h10, v, h11, h12⟩ := h9 j cc hc
    refine ⟨h10, v, ?_, h12.mono hz fun _ _ => rfl⟩
    rw [block_cell h4]
    rcases h0 with h0 | h0
    · omega
    · rw [h0, Nat.zero_add]; exact h11
  · obtain ⟨rfl, rfl⟩ := hp.2 hR
    exact PR.slc_iff.2 ⟨none, 0, 0, rfl, Nat.le_refl _, Nat.zero_le _, fun _ => rfl, fun i e he => by simp at he⟩
theorem crep_frz {Z' : Nat → Prop} (hz : ∀ b, G.Z b → Z' b) {k i j : Nat} (hk : G.R (nest k i j) → Z' (G.β (nest k i j))) {u : Value} {c : PV} (hn : (pureC c || isU c) = true) (hc : CRep G h w k i j u c) : one (frzC c) = true ∧ PR Z' w u (frzC c) := by
  cases c
  case uslc ns => unfold CRep at hc; exact ⟨rfl, nrep_slc hz hk hc⟩
  case nils =>
    unfold CRep at hc
    obtain rfl := rep_nils hc.2
    exact ⟨rfl, PR.slc_iff.2 ⟨none, 0, 0, rfl, Nat.le_refl _, Nat.zero_le _, fun _ => rfl, fun i e he => by simp at he⟩⟩
  all_goals
    unfold CRep at hc
    exact ⟨hc.1, (vrep_pure (by simpa [isU] using hn) hc.2).mono hz fun _ _ => rfl⟩
theorem ecells_frz (e : PV) : ecells (frzE e) = (ecells e).map frzC := by cases e <;> rfl
def Gh.frz1 (G : Gh) (k s : Nat) : Gh := { G with Z := fun b => G.Z b ∨ ∃ ij, G.R (k, some ij) ∧ b = G.β (k, some ij), σ := fun key => if key = root k then s else G.σ key }
/-- the object k is given up -/
theorem kill_one (hr : HRep B Z0 G h w) {k g s ver : Nat} {es : List PV} (hh : h[k]? = some (g, .arr s ver false es)) (hp : es.all noRefE = true) :
    HRep B Z0 (G.frz1 k s) (h.set k (g, .dead)) w ∧ Ext G h w (G.frz1 k s) (h.set k (g, .dead)) w ∧
      ∀ {u : Value} {gl l : Nat}, es.length = gl → l = gl → VRep G h w D u (.own k g gl s 0 l) → NRep (G.frz1 k s) w (root k) u (es.map frzE) := by
  have hk : k < h.length := (List.getElem?_eq_some_iff.1 hh).1
  have hsame : ∀ k' y, k' ≠ k → SameKey G (G.frz1 k s) (k', y) := fun k' y hkk => ⟨rfl, Iff.rfl, rfl, by simp [Gh.frz1, hkk]⟩
  have x : Ext G h w (G.frz1 k s) (h.set k (g, .dead)) w := by
    refine ⟨fun _ y => .inl y, fun _ _ => rfl, fun k' gn ob e => ?_⟩
    by_cases hkk : k' = k
    · subst hkk; rw [hh] at e; cases e
      exact ⟨g, .dead, List.getElem?_set_self hk, Nat.le_refl _, fun _ => Keep.dead _ _⟩
    · exact ⟨gn, ob, by rw [List.getElem?_set_ne (Ne.symm hkk)]; exact e, Nat.le_refl _, fun _ => Keep.refl k' ob (hsame _ _ hkk) fun i j => hsame _ _ hkk⟩
  refine ⟨hr.update k g .dead hk x (fun k' y hkk => .inl (hsame k' y hkk)) (fun _ _ _ _ => rfl) (Nat.le_refl _) ?_ (fun b hb => hb.imp id fun ⟨ij, h1, h2⟩ => h2 ▸ (hr.lv _ h1).1) ?_ ?_ (fun e => by cases e) trivial, x, ?_⟩
  · rintro b (hb | ⟨ij, hR, rfl⟩)
    · exact hr.zb b hb
    · exact (hr.lv _ hR).2
  · rintro k' y hkk hR hn (hb | ⟨ij, hR2, he⟩)
    · exact hn hb
    · exact hkk (congrArg Prod.fst (hr.inj _ _ hR hR2 he))
  · intro y hR
    obtain ⟨b1, b2⟩ := hr.lv (k, y) hR
    refine ⟨b1, b2, fun e => absurd e (by simp [liveOb]), fun y' hR' he => ?_, fun k' y' hkk hR' he => ?_⟩
    · exact congrArg Prod.snd (hr.inj _ _ hR hR' he)
    · exact hkk (congrArg Prod.fst (hr.inj _ _ hR hR' he)).symm
  · intro u gl l h1 h2 hv
    subst h1 h2
    unfold D at hv; unfold VRep at hv
    obtain ⟨a, c, rfl, q1, q2, q3, gn, ob, q4, q5, q6⟩ := hv
    rw [hh] at q4; cases q4
    obtain ⟨_, q7⟩ := q6 rfl _ _ _ _ rfl
    obtain ⟨_, q8, q9⟩ := q7 rfl
    have ho := hr.ob k g _ hh
    unfold ORep at ho
    obtain ⟨o1, o2, o3, o4, o5⟩ := ho
    unfold NRep
    refine ⟨fun hR => ?_, fun hR => ?_⟩
    · obtain ⟨us, T, o6, o7, o8⟩ := o4 hR
      obtain ⟨f, rfl, q10, q11, q12⟩ := q8 hR
      refine ⟨us, T, f, c, by simp [Gh.frz1], ?_, by simpa using q1, ?_, o3, o6, ?_, ?_, fun i e he => ?_⟩
      · rcases q10 with q10 | q10
        · exact .inl q10
        · exact .inr (by simpa using q10 rfl)
      · show c ≤ G.γ (root k); omega
      · simpa [Gh.frz1] using o7
      · simpa [Gh.frz1] using o1
      · rw [List.getElem?_map] at he
        obtain ⟨e0, he0, rfl⟩ := Option.map_eq_some_iff.1 he
        obtain ⟨o9, o10⟩ := o8 i e0 he0
        have hs' : (G.frz1 k s).σ (root k) = s := by simp [Gh.frz1]
        rw [hs', ecells_frz]
        refine ⟨by simpa using o9, fun j cc hc => ?_⟩
        rw [List.getElem?_map] at hc
        obtain ⟨c0, hc0, rfl⟩ := Option.map_eq_some_iff.1 hc
        obtain ⟨v, o11, o12⟩ := o10 j c0 hc0
        have hnr : (pureC c0 || isU c0) = true := List.all_eq_true.1 (show (ecells e0).all (fun c => pureC c || isU c) = true from List.all_eq_true.1 hp e0 (List.mem_of_getElem? he0)) c0 (List.mem_of_getElem? hc0)
        obtain ⟨o13, o14⟩ := crep_frz (Z' := (G.frz1 k s).Z) (fun b hb => .inl hb) (fun hR' => .inr ⟨(i, j), hR', rfl⟩) hnr o12
        exact ⟨o13, v, o11, o14⟩
    · have he := o5 hR
      subst he
      obtain ⟨rfl, _⟩ := q9 hR
      simp at q1
      rcases q3 with ⟨_, rfl⟩ | ⟨b, f, q3⟩
      · exact ⟨rfl, rfl⟩
      · cases q3
/-- a cell of an element that is put into an array; m: the array that moves there -/
def ECell (G : Gh) (h : Heap) (w : World) (m : Option Nat) (u : Value) (d : PV) : Prop :=
  match m with
  | none => one d = true ∧ VRep G h w D u d
  | some k => ∃ ns, d = .uslc ns ∧ NRep G w (root k) u ns
theorem ECell.ext (x : Ext G h w G' h' w') {m : Option Nat} {u : Value} {d : PV} (hk : ∀ k, m = some k → SameKey G G' (root k)) (hb : ∀ k, m = some k → G.R (root k) → w'.heap[G.β (root k)]? = w.heap[G.β (root k)]?) (hc : ECell G h w m u d) : ECell G' h' w' m u d := by
  cases m with
  | none => exact ⟨hc.1, hc.2.ext x⟩
  | some k => obtain ⟨ns, rfl, h1⟩ := hc; exact ⟨ns, rfl, h1.ext x (hk k rfl) (hb k rfl)⟩
theorem upd_append (h : Heap) (a b : List (Nat × Row)) : upd h (a ++ b) = upd (upd h a) b := by simp [upd, List.foldl_append]
theorem upd_length : ∀ (ws : List (Nat × Row)) (h : Heap), (upd h ws).length = h.length
  | [], h => rfl
  | x :: ws, h => by rw [show upd h (x :: ws) = upd (h.set x.1 x.2) ws from rfl, upd_length ws]; simp
theorem upd_other : ∀ (ws : List (Nat × Row)) (h : Heap) (k : Nat), k ∉ ws.map (·.1) → (upd h ws)[k]? = h[k]?
  | [], h, k, _ => rfl
  | x :: ws, h, k, hk => by
    simp only [List.map_cons, List.mem_cons, not_or] at hk
    rw [show upd h (x :: ws) = upd (h.set x.1 x.2) ws from rfl, upd_other ws _ k hk.2, List.getElem?_set_ne (Ne.symm hk.1)]
/-- what the arrays that are given up are, and that all others are as they were -/
structure Killed (G : Gh) (h : Heap) (G' : Gh) (h' : Heap) (ks : List Nat) : Prop where
  same : ∀ k y, k ∉ ks → SameKey G G' (k, y)
  β : G'.β = G.β
  R : G'.R = G.R
  dead : ∀ k, k ∈ ks → ∃ g, h'[k]? = some (g, .dead)
  live : ∀ k, k ∈ ks → ∃ g s ver es, h[k]? = some (g, .arr s ver false es)
  other : ∀ k, k ∉ ks → h'[k]? = h[k]?
  z : ∀ b, G'.Z b → G.Z b ∨ ∃ k, k ∈ ks ∧ ∃ ij, G.R (k, some ij) ∧ b = G.β (k, some ij)
theorem embC_spec (hr : HRep B Z0 G h w) {hide : List Nat} {u : Value} {c d : PV} {ks : List Nat} {h0 : Heap} (hks : ∀ k, k ∈ ks → h[k]? = h0[k]?) (ho : one c = true) (hv : VRep G h w D u c) (hfr : ∀ (k g s ver : Nat) (es : List PV), h0[k]? = some (g, Ob.arr s ver true es) → h[k]? = h0[k]?)
    (hk : embC (lkOf h0 hide) c = some (d, ks)) : ∃ G' m, HRep B Z0 G' (upd h (kill (lkOf h0 hide) ks)) w ∧ Ext G h w G' (upd h (kill (lkOf h0 hide) ks)) w ∧ Killed G h G' (upd h (kill (lkOf h0 hide) ks)) ks ∧
      ECell G' (upd h (kill (lkOf h0 hide) ks)) w m u d ∧ ∀ k, m = some k ↔ k ∈ ks := by
  have triv : ∀ {d}, ks = [] → one d = true → VRep G h w D u d → ∃ G' m, HRep B Z0 G' (upd h (kill (lkOf h0 hide) ks)) w ∧ Ext G h w G' (upd h (kill (lkOf h0 hide) ks)) w ∧ Killed G h G' (upd h (kill (lkOf h0 hide) ks)) ks ∧
      ECell G' (upd h (kill (lkOf h0 hide) ks)) w m u d ∧ ∀ k, m = some k ↔ k ∈ ks := fun {d} e o v => by
    subst e
    exact ⟨G, none, hr, Ext.refl, ⟨fun _ _ _ => SameKey.refl _ _, rfl, rfl, fun _ hm => by simp at hm, fun _ hm => by simp at hm, fun _ _ => rfl, fun _ hb => .inl hb⟩, ⟨o, v⟩, fun k => by simp⟩
  cases c
  case own k g gl s o l =>
    simp only [embC] at hk
    split at hk
    · rename_i g' s' ver fr es hlk
      split at hk
      · rename_i hc
        obtain ⟨rfl, hl, rfl, rfl, rfl, hp⟩ := hc
        have hh0 := lk_some hlk (by simp)
        split at hk
        · rename_i hf
          subst hf
          simp only [Option.some.injEq, Prod.mk.injEq] at hk
          obtain ⟨rfl, rfl⟩ := hk
          have hh : h[k]? = some (g', .arr s' ver true es) := by rw [hfr k _ _ _ _ hh0, hh0]
          refine triv rfl rfl (mk_slc ?_)
          have hz := hr.fz k g' _ hh rfl
          have hob := hr.ob k g' _ hh
          unfold ORep at hob
          obtain ⟨o1, o2, o3, o4, o5⟩ := hob
          unfold D at hv; unfold VRep at hv
          obtain ⟨a, cc, rfl, q1, q2, q3, gn, ob, q4, q5, q6⟩ := hv
          rw [hh] at q4; cases q4
          obtain ⟨_, q7⟩ := q6 rfl _ _ _ _ rfl
          obtain ⟨_, q8, q9⟩ := q7 hl
          by_cases hR : G.R (root k)
          · obtain ⟨us, T, o6, o7, o8⟩ := o4 hR
            obtain ⟨f, rfl, q10, q11, q12⟩ := q8 hR
            refine PR.slc_iff.2 ⟨some ⟨G.β (root k), f, none⟩, cc, s', by simp [hl], by simpa [hl] using q1, q2, fun e => absurd e (by simp), fun i e he => ?_⟩
            rw [List.getElem?_map] at he
            obtain ⟨e0, he0, rfl⟩ := Option.map_eq_some_iff.1 he
            have hi := (List.getElem?_eq_some_iff.1 he0).1
            obtain ⟨o9, o10⟩ := o8 i e0 he0
            rw [ecells_frz]
            refine ⟨by simpa using o9, _, _, rfl, hz none hR, fun j cc' hc => ?_⟩
            rw [List.getElem?_map] at hc
            obtain ⟨c0, hc0, rfl⟩ := Option.map_eq_some_iff.1 hc
            obtain ⟨v, o11, o12⟩ := o10 j c0 hc0
            have hnr : (pureC c0 || isU c0) = true := List.all_eq_true.1 (show (ecells e0).all (fun c => pureC c || isU c) = true from List.all_eq_true.1 hp e0 (List.mem_of_getElem? he0)) c0 (List.mem_of_getElem? hc0)
            obtain ⟨o13, o14⟩ := crep_frz (Z' := G.Z) (fun b hb => hb) (fun hR' => hz _ hR') hnr o12
            refine ⟨o13, v, ?_, o14⟩
            rw [block_cell o6]
            have hf0 : f = 0 := by
              rcases q10 with q10 | q10
              · omega
              · simpa using q10 rfl
            rw [hf0, Nat.zero_add]; exact o11
          · have he := o5 hR
            subst he
            obtain ⟨rfl, _⟩ := q9 hR
            simp at hl
            subst hl
            rcases q3 with ⟨_, rfl⟩ | ⟨b, f, q3⟩
            · exact PR.slc_iff.2 ⟨none, 0, 0, rfl, Nat.le_refl _, Nat.zero_le _, fun _ => rfl, fun i e he => by simp at he⟩
            · cases q3
        · rename_i hf
          have hf : fr = false := by simpa using hf
          subst hf
          simp only [Option.some.injEq, Prod.mk.injEq] at hk
          obtain ⟨rfl, rfl⟩ := hk
          have hh : h[k]? = some (g', .arr s' ver false es) := by rw [hks k (by simp), hh0]
          obtain ⟨a1, a2, a3⟩ := kill_one hr hh hp
          have hu : upd h (kill (lkOf h0 hide) [k]) = h.set k (g', .dead) := by simp [upd, kill, hlk]
          rw [hu]
          refine ⟨_, some k, a1, a2, ⟨fun k' y hkk => ?_, rfl, rfl, fun k' hm => ?_, fun k' hm => ?_, fun k' hm => ?_, fun b hb => ?_⟩, ⟨_, rfl, a3 hl (by omega) hv⟩, fun k' => by simp; exact eq_comm⟩
          · simp at hkk; exact ⟨rfl, Iff.rfl, rfl, by simp [Gh.frz1, hkk]⟩
          · simp at hm; subst hm; exact ⟨g', List.getElem?_set_self (List.getElem?_eq_some_iff.1 hh).1⟩
          · simp at hm; subst hm; exact ⟨_, _, _, _, hh⟩
          · simp at hm; exact List.getElem?_set_ne (Ne.symm hm)
          · exact hb.imp id fun ⟨ij, h1, h2⟩ => ⟨k, by simp, ij, h1, h2⟩
      · cases hk
    · cases hk
  all_goals
    simp only [embC] at hk
    first
      | (cases hk; done)
      | (simp only [Option.some.injEq, Prod.mk.injEq] at hk
         obtain ⟨rfl, rfl⟩ := hk
         exact triv rfl ho hv)
theorem Killed.trans {G1 G2 : Gh} {h0 h1 h2 : Heap} {ls ks : List Nat} (a : Killed G h0 G1 h1 ls) (b : Killed G1 h1 G2 h2 ks) (hd : ∀ k, k ∈ ks → k ∉ ls) : Killed G h0 G2 h2 (ls ++ ks) := by
  refine ⟨fun k y hk => ?_, b.β.trans a.β, b.R.trans a.R, fun k hk => ?_, fun k hk => ?_, fun k hk => ?_, fun x hx => ?_⟩
  · simp only [List.mem_append, not_or] at hk
    exact (a.same k y hk.1).trans (b.same k y hk.2)
  · by_cases h1 : k ∈ ks
    · exact b.dead k h1
    · obtain ⟨g, hg⟩ := a.dead k ((List.mem_append.1 hk).resolve_right h1)
      exact ⟨g, (b.other k h1).trans hg⟩
  · by_cases h1 : k ∈ ls
    · exact a.live k h1
    · obtain ⟨g, s, ver, es, hg⟩ := b.live k ((List.mem_append.1 hk).resolve_left h1)
      exact ⟨g, s, ver, es, (a.other k h1).symm.trans hg⟩
  · simp only [List.mem_append, not_or] at hk
    exact (b.other k hk.2).trans (a.other k hk.1)
  · rcases b.z x hx with h1 | ⟨k, h1, ij, h2, h3⟩
    · rcases a.z x h1 with h1 | ⟨k, h1, ij, h2, h3⟩
      · exact .inl h1
      · exact .inr ⟨k, by simp [h1], ij, h2, h3⟩
    · rw [a.R] at h2; rw [a.β] at h3; exact .inr ⟨k, by simp [h1], ij, h2, h3⟩
theorem kill_append (lk : Look) (a b : List Nat) : kill lk (a ++ b) = kill lk a ++ kill lk b := by simp [kill]
/-- cells that are put into an array, one after the other -/
theorem embCs_spec {hide : List Nat} : ∀ {cs : List PV} {ds : List PV} {ks : List Nat} {val : Nat → Value} {G : Gh} {h : Heap} {h0 : Heap}, HRep B Z0 G h w → (∀ k, k ∈ ks → h[k]? = h0[k]?) →
    (∀ (k g s ver : Nat) (es : List PV), h0[k]? = some (g, Ob.arr s ver true es) → h[k]? = h0[k]?) → (∀ (t : Nat) c, cs[t]? = some c → one c = true ∧ VRep G h w D (val t) c) →
    embCs (lkOf h0 hide) cs = some (ds, ks) → ∃ (G' : Gh) (mk : Nat → Option Nat), HRep B Z0 G' (upd h (kill (lkOf h0 hide) ks)) w ∧ Ext G h w G' (upd h (kill (lkOf h0 hide) ks)) w ∧ Killed G h G' (upd h (kill (lkOf h0 hide) ks)) ks ∧ ds.length = cs.length ∧
      (∀ (t : Nat) d, ds[t]? = some d → ECell G' (upd h (kill (lkOf h0 hide) ks)) w (mk t) (val t) d) ∧ (∀ t k, mk t = some k → k ∈ ks ∧ t < ds.length) ∧ (∀ t t' k, mk t = some k → mk t' = some k → t = t')
  | [], ds, ks, val, G, h, h0, hr, _, _, _, hk => by
    simp [embCs] at hk
    obtain ⟨rfl, rfl⟩ := hk
    exact ⟨G, fun _ => none, hr, Ext.refl, ⟨fun _ _ _ => SameKey.refl _ _, rfl, rfl, fun _ hm => by simp at hm, fun _ hm => by simp at hm, fun _ _ => rfl, fun _ hb => .inl hb⟩, rfl, fun t d hd => by simp at hd, fun _ _ e => absurd e (by simp), fun _ _ _ e => absurd e (by simp)⟩
  | c :: cs, ds, ks, val, G, h, h0, hr, hks, hfr, hv, hk => by
    simp only [embCs] at hk
    split at hk
    · rename_i d ks0 ds' ls hc hcs
      split at hk
      · rename_i hdis
        simp only [Option.some.injEq, Prod.mk.injEq] at hk
        obtain ⟨rfl, rfl⟩ := hk
        have hdis' : ∀ k, k ∈ ks0 → k ∉ ls := fun k hk1 hk2 => by
          have := List.all_eq_true.1 hdis k hk1
          simp at this; exact this hk2
        obtain ⟨G1, mk1, a1, a2, a3, a4, a5, a6, a7⟩ := embCs_spec (val := fun t => val (t + 1)) hr (fun k hk => hks k (by simp [hk])) hfr (fun t c hc => hv (t + 1) c (by simpa using hc)) hcs
        obtain ⟨v1, v2⟩ := hv 0 c rfl
        obtain ⟨G2, m, b1, b2, b3, b4, b5⟩ := embC_spec a1 (fun k hk => (a3.other k (hdis' k hk)).trans (hks k (by simp [hk]))) v1 (v2.ext a2) (fun k g s ver es he => by
          refine (a3.other k fun hm => ?_).trans (hfr k g s ver es he)
          obtain ⟨g', s', v', es', e'⟩ := a3.live k hm
          rw [hfr k g s ver es he, he] at e'
          cases e') hc
        rw [kill_append, upd_append]
        refine ⟨G2, fun t => match t with | 0 => m | t + 1 => mk1 t, b1, a2.trans b2, a3.trans b3 hdis', by simp [a4], fun t d' hd => ?_, fun t k he => ?_, fun t t' k he he' => ?_⟩
        · cases t with
          | zero => simp at hd; subst hd; exact b4
          | succ t =>
            refine (a5 t d' (by simpa using hd)).ext b2 (fun k hm => ?_) (fun k hm _ => rfl)
            exact b3.same k none fun hk1 => hdis' k hk1 (a6 t k hm).1
        · cases t with
          | zero => exact ⟨by simp [(b5 k).1 he], by simp⟩
          | succ t => obtain ⟨q1, q2⟩ := a6 t k he; exact ⟨by simp [q1], by simpa using q2⟩
        · cases t with
          | zero => cases t' with
            | zero => rfl
            | succ t' => exact absurd (a6 t' k he').1 (hdis' k ((b5 k).1 he))
          | succ t => cases t' with
            | zero => exact absurd (a6 t k he).1 (hdis' k ((b5 k).1 he'))
            | succ t' => rw [a7 t t' k he he']
      · cases hk
    · cases hk
theorem ecell_single {m : Option Nat} {u : Value} {d : PV} (hc : ECell G h w m u d) : ecells d = [d] := by
  cases m with
  | none => have := hc.1; cases d <;> first | rfl | (simp [one] at this)
  | some k => obtain ⟨ns, rfl, _⟩ := hc; rfl
theorem ecells_reE {e : PV} {ds : List PV} {mk : Nat → Option Nat} {val : Nat → Value} (hl : ds.length = (ecells e).length) (hd : ∀ (t : Nat) d, ds[t]? = some d → ECell G h w (mk t) (val t) d) : ecells (reE e ds) = ds := by
  cases e
  case agg => rfl
  all_goals
    match ds, hl, hd with
    | [d], _, hd => exact ecell_single (hd 0 d rfl)
    | [], hl, _ => simp [ecells] at hl
    | _ :: _ :: _, hl, _ => simp [ecells] at hl
/-- elements that are put into an array, one after the other -/
theorem embEs_spec {hide : List Nat} : ∀ {es : List PV} {ds : List PV} {ks : List Nat} {val : Nat → Nat → Value} {G : Gh} {h : Heap} {h0 : Heap}, HRep B Z0 G h w → (∀ k, k ∈ ks → h[k]? = h0[k]?) →
    (∀ (k g s ver : Nat) (es : List PV), h0[k]? = some (g, Ob.arr s ver true es) → h[k]? = h0[k]?) → (∀ (i : Nat) e, es[i]? = some e → ∀ (t : Nat) c, (ecells e)[t]? = some c → one c = true ∧ VRep G h w D (val i t) c) →
    embEs (lkOf h0 hide) es = some (ds, ks) → ∃ (G' : Gh) (mk : Nat → Nat → Option Nat), HRep B Z0 G' (upd h (kill (lkOf h0 hide) ks)) w ∧ Ext G h w G' (upd h (kill (lkOf h0 hide) ks)) w ∧ Killed G h G' (upd h (kill (lkOf h0 hide) ks)) ks ∧ ds.length = es.length ∧
      (∀ (i : Nat) d e, ds[i]? = some d → es[i]? = some e → (ecells d).length = (ecells e).length ∧ ∀ (t : Nat) c, (ecells d)[t]? = some c → ECell G' (upd h (kill (lkOf h0 hide) ks)) w (mk i t) (val i t) c) ∧
      (∀ i t k, mk i t = some k → k ∈ ks ∧ i < ds.length) ∧ (∀ i t i' t' k, mk i t = some k → mk i' t' = some k → i = i' ∧ t = t')
  | [], ds, ks, val, G, h, h0, hr, _, _, _, hk => by
    simp [embEs] at hk
    obtain ⟨rfl, rfl⟩ := hk
    exact ⟨G, fun _ _ => none, hr, Ext.refl, ⟨fun _ _ _ => SameKey.refl _ _, rfl, rfl, fun _ hm => by simp at hm, fun _ hm => by simp at hm, fun _ _ => rfl, fun _ hb => .inl hb⟩, rfl, fun t d e hd => by simp at hd, fun _ _ _ e => absurd e (by simp), fun _ _ _ _ _ e => absurd e (by simp)⟩
  | e :: es, ds, ks, val, G, h, h0, hr, hks, hfr, hv, hk => by
    simp only [embEs] at hk
    split at hk
    · rename_i d ks0 ds' ls hc hcs
      split at hk
      · rename_i hdis
        simp only [Option.some.injEq, Prod.mk.injEq] at hk
        obtain ⟨rfl, rfl⟩ := hk
        have hdis' : ∀ k, k ∈ ks0 → k ∉ ls := fun k hk1 hk2 => by
          have := List.all_eq_true.1 hdis k hk1
          simp at this; exact this hk2
        obtain ⟨G1, mk1, a1, a2, a3, a4, a5, a6, a7⟩ := embEs_spec (val := fun i => val (i + 1)) hr (fun k hk => hks k (by simp [hk])) hfr (fun t c hc => hv (t + 1) c (by simpa using hc)) hcs
        unfold embE at hc
        split at hc
        · rename_i dd kk hcc
          simp only [Option.some.injEq, Prod.mk.injEq] at hc
          obtain ⟨rfl, rfl⟩ := hc
          obtain ⟨G2, mk2, b1, b2, b3, b4, b5, b6, b7⟩ := embCs_spec (val := val 0) a1 (fun k hk => (a3.other k (hdis' k hk)).trans (hks k (by simp [hk]))) (fun k g s ver es he => by
            refine (a3.other k fun hm => ?_).trans (hfr k g s ver es he)
            obtain ⟨g', s', v', es', e'⟩ := a3.live k hm
            rw [hfr k g s ver es he, he] at e'
            cases e') (fun t c hc => by obtain ⟨v1, v2⟩ := hv 0 e rfl t c hc; exact ⟨v1, v2.ext a2⟩) hcc
          have hre := ecells_reE b4 b5
          rw [kill_append, upd_append]
          refine ⟨G2, fun i t => match i with | 0 => mk2 t | i + 1 => mk1 i t, b1, a2.trans b2, a3.trans b3 hdis', by simp [a4], fun i d' e' hd he => ?_, fun i t k he => ?_, fun i t i' t' k he he' => ?_⟩
          · cases i with
            | zero =>
              simp at hd he; subst hd; subst he
              rw [hre]
              exact ⟨b4, b5⟩
            | succ i =>
              obtain ⟨q1, q2⟩ := a5 i d' e' (by simpa using hd) (by simpa using he)
              refine ⟨q1, fun t c hc => (q2 t c hc).ext b2 (fun k hm => ?_) (fun k hm _ => rfl)⟩
              exact b3.same k none fun hk1 => hdis' k hk1 (a6 i t k hm).1
          · cases i with
            | zero => exact ⟨by simp [(b6 t k he).1], by simp⟩
            | succ i => obtain ⟨q1, q2⟩ := a6 i t k he; exact ⟨by simp [q1], by simpa using q2⟩
          · cases i with
            | zero => cases i' with
              | zero => exact ⟨rfl, b7 t t' k he he'⟩
              | succ i' => exact absurd (a6 i' t' k he').1 (hdis' k (b6 t k he).1)
            | succ i => cases i' with
              | zero => exact absurd (a6 i t k he).1 (hdis' k (b6 t' k he').1)
              | succ i' => obtain ⟨q1, q2⟩ := a7 i t i' t' k he he'; exact ⟨by rw [q1], q2⟩
        · cases hc
      · cases hk
    · cases hk
theorem killed_nz (hr : HRep B Z0 G h w) {ks : List Nat} (hK : Killed G h G' h' ks) {k : Nat} (hk : k ∈ ks) (hR : G.R (root k)) : ¬ G'.Z (G'.β (root k)) := by
  intro hz
  rw [hK.β] at hz
  obtain ⟨g, s, ver, es, hg⟩ := hK.live k hk
  rcases hK.z _ hz with h1 | ⟨k', _, ij, h2, h3⟩
  · exact hr.nz k g _ hg rfl none hR h1
  · have := hr.inj _ _ hR h2 h3
    simp at this
end
end Go.Proofs.Ytgdcogoacnghkaa.Am
