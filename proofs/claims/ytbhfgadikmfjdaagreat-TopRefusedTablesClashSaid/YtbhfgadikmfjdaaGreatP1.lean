/-
  The plain machine, that it is sound, and walks: part 1 (joined and shortened by a program of the prover's).
-/
import Derived.WalkKit
import Derived.WalkSpells
import Derived.WalkLawsBesides
import Derived.Lib.Hide
import Derived.Handy
import Derived.RangeFuncNested
import Derived.RangeFuncLeaves
import Derived.RangeFuncCalls
import Derived.OrdersIn
import Derived.LoopNIn
import Derived.CallsIn
import Derived.Scope
import Derived.Laws.Small
import Derived.Laws.CopyRow
import Derived.Laws.MakeOwn
set_option linter.unusedSimpArgs false
set_option linter.unusedVariables false
set_option linter.unusedSectionVars false
namespace Go.Proofs.YtbhfgadikmfjdaaGreat
section
abbrev A8:=@List.all_eq_true
abbrev B4:=@List.getElem?_eq_some_iff
abbrev B7:=@List.getElem_mem
abbrev C5:=@Option.map_eq_some_iff
abbrev C8:=@List.mem_of_getElem?
abbrev C9:=@Nat.zero_le
abbrev D7:=@List.getElem?_set_self
abbrev D9:=@List.getElem?_set_ne
abbrev E6:=@Bool.and_eq_true
abbrev E9:=@List.mem_map
abbrev F7:=@List.mem_singleton
abbrev G7:=@List.mem_append
abbrev H5:=@List.getElem?_map
abbrev I8:=@List.length_map
abbrev J2:=@List.take_add_one
abbrev J7:=@List.take_length
abbrev J8:=@List.map_set
abbrev L9:=@List.map_congr_left
abbrev N8:=@Sem.run_bind
abbrev Q8:=@Result.andThen_ok
abbrev Q9:=@Nat.add_mul
abbrev S7:=@Nat.le_trans
abbrev S8:=@List.map_append
abbrev U3:=@Nat.zero_add
abbrev U4:=@List.take_of_length_le
abbrev V1:=@Option.bind_eq_some_iff
abbrev W6:=@Option.some.inj
abbrev Z3:=@List.length_cons
abbrev Z4:=@Nat.mul_le_mul_right
abbrev Z5:=@List.mem_cons
abbrev a0E:=@List.append_nil
abbrev a0F:=@Int.le_trans
abbrev a0O:=@List.getElem?_take
abbrev a0P:=@Bool.or_eq_true
abbrev a0Q:=@List.length_eq_zero_iff
abbrev a0R:=@List.getElem?_append_left
abbrev a0S:=@List.contains_iff_mem
abbrev a0f:=@List.getElem?_eq_none
abbrev a0s:=@List.map_cons
abbrev a0t:=@List.ext_getElem
abbrev a0u:=@List.length_append
abbrev a1E:=@Sem.run_pure
abbrev a1F:=@List.getElem_of_mem
abbrev a1G:=@List.length_take
abbrev a1H:=@List.map_drop
abbrev a1I:=@Nat.blt_eq
abbrev a1U:=@List.drop_drop
abbrev a1V:=@List.findIdx?_eq_some_iff_getElem
abbrev a1e:=@List.getElem_map
abbrev a1f:=@List.map_map
abbrev a1v:=@List.mem_range
abbrev a2A:=@Array.getElem?_eq_some_iff
abbrev a2B:=@List.foldl_cons
abbrev a2C:=@List.flatMap_cons
abbrev a2D:=@List.mem_append_left
abbrev a2E:=@List.mem_or_eq_of_mem_set
abbrev a2F:=@List.range_succ
abbrev a2S:=@Array.getElem?_append_left
abbrev a2T:=@List.length_set
abbrev a2U:=@Option.map_some
abbrev a2V:=@List.mem_flatMap
abbrev a2W:=@List.mem_cons_self
abbrev a2X:=@List.length_drop
abbrev a2j:=@List.idxOf?_eq_none_iff
abbrev a2k:=@List.length_pos_iff
abbrev a3W:=@Bool.false_eq_true
abbrev a3X:=@List.getElem?_append_right
abbrev a3Y:=@Array.getD_eq_getD_getElem?
abbrev a3Z:=@List.nodup_append
abbrev a3s:=@List.getElem?_drop
abbrev a3t:=@Nat.add_zero
abbrev a3u:=@List.append_assoc
abbrev a3v:=@List.map_take
abbrev a3w:=@Nat.mul_le_mul
abbrev a4E:=@List.nil_append
abbrev a4F:=@List.ext_getElem?
abbrev a4G:=@List.getElem_range
abbrev a4H:=@List.nodup_cons
abbrev a4I:=@Option.getD_some
abbrev a4a:=@List.getElem_set
abbrev a5L:=@Nat.le_of_lt
abbrev a5M:=@Nat.lt_or_ge
abbrev a5N:=@List.pairwise_iff_getElem
abbrev a5O:=@List.nodup_iff_pairwise_ne
abbrev a5P:=@Option.toList_some
abbrev a5e:=@Option.bind_some
abbrev a5f:=@Array.getElem?_append_right
abbrev a5g:=@List.mem_cons_of_mem
abbrev a5h:=@List.prefix_refl
abbrev a5i:=@List.map_eq_nil_iff
abbrev a6A:=@Array.append_assoc
abbrev a6B:=@Nat.sub_self
abbrev a6C:=@Bool.not_eq_true'
abbrev a6D:=@List.getElem?_set
abbrev a6E:=@Nat.not_lt_zero
abbrev a6F:=@UInt8.toNat_inj
abbrev a6z:=@Array.size_append
abbrev a7E:=@List.take_append_drop
abbrev a7F:=@List.length_nil
abbrev a7G:=@List.getElem?_toArray
abbrev a7H:=@List.set_set
abbrev a7I:=@List.cons_append
abbrev a7J:=@List.mem_filter
abbrev a7K:=@List.mem_append_right
abbrev a7L:=@Array.getElem?_replicate
abbrev a7M:=@List.eq_replicate_iff
abbrev a9A:=@List.flatMap_nil
abbrev a9B:=@List.mem_filterMap
abbrev a9C:=@List.length_eq_one_iff
abbrev a9D:=@List.exists_cons_of_ne_nil
abbrev a9E:=@List.length_singleton
abbrev a9x:=@List.any_eq_true
abbrev a9y:=@List.size_toArray
abbrev a9z:=@Nat.lt_of_lt_of_le
abbrev b1M:=@Nat.lt_or_gt_of_ne
abbrev b1N:=@Array.eq_empty_of_size_eq_zero
abbrev b1O:=@List.findIdx?_eq_none_iff
abbrev b1P:=@List.filter_append
abbrev b4E:=@World.putObj_heap_other
abbrev b4F:=@List.eq_of_mem_replicate
abbrev b4G:=@Array.getElem?_modify
abbrev b4H:=@List.drop_eq_nil_of_le
abbrev b4I:=@List.set_getElem_self
abbrev b4J:=@List.filterMap_append
abbrev b4K:=@List.isPrefixOf_iff_prefix
abbrev b4L:=@Array.size_eq_zero_iff
abbrev b4M:=@List.drop_eq_getElem_cons
abbrev c1d:=@List.eq_nil_iff_forall_not_mem
abbrev l9:=@List.getElem?_eq_getElem
abbrev m0:=@Nat.le_refl
abbrev p9:=@Option.some.injEq
abbrev s6:=@Prod.mk.injEq
abbrev u9:=@List.getD_eq_getElem?_getD
theorem i9{p:Prop}(h:p:=by omega):p:=h
theorem k7{p:Prop}(h:p:=by simp):p:=h
theorem m7{p:Prop}(h:p:=by dsimp only;omega):p:=h
theorem H6{p:Prop}(h:p:=by decide):p:=h
theorem I3{p:Prop}(h:p:=by simp;omega):p:=h
end
end Go.Proofs.YtbhfgadikmfjdaaGreat
namespace Go.Proofs.YtbhfgadikmfjdaaGreat.Am
inductive PV where
 |uu
 |bool(b:Bool)
 |int(k:IntKind)(n:Int)
 |str(s:ByteArray)
 |lit(v:Value)
 |nils
 |slc(es:List PV)
 |uslc(es:List PV)
 |own(k gen glen s off len:Nat)
 |nown(k gen ver i j off len:Nat)
 |ptr(k gen off:Nat)
 |vsl(k gen off s len:Nat)
 |eptr(k gen glen s i j:Nat)
 |nptr(k gen ver s i j m l:Nat)
 |fptr(cs:List PV)
 |agg(cs:List PV)
 |tup(vs:List PV)
 |fn(f:Fn)(first captured:List PV)
 |lst(es:List PV)
 |any
 |mapv(k gen:Nat)
 |J9(ks vs:List PV)
 |ne
 deriving Inhabited
inductive Ob where
 |dead
 |var(cs:List PV)
 |arr(sz ver:Nat)(fr:Bool)(es:List PV)
 |mp(fr:Bool)(ks vs:List PV)
 deriving Inhabited
abbrev Row:=Nat×Ob
abbrev l5:=List Row
def l6:PV→List PV
 | .agg cs=>cs
 |c=>[c]
inductive s8 where
 |l(i:Nat)
 |v(i:Nat)
 |c(p:PV)
 deriving Inhabited
inductive N5 where
 |mv(x:s8)
 |pick(c a b:s8)
 |alloc(k:Nat)(zs:List PV)
 |box(k:Nat)(x:s8)
 |build(zs:List PV)(parts:List (Nat×Nat×s8))
 |mkarr(k sz:Nat)(zs:List PV)(parts:List (Nat×s8))
 |lit(sz:Nat)(zs:List PV)(parts:List (Nat×s8))
 |load(agg:Bool)(sz:Nat)(a:s8)
 |loadV(agg:Bool)(sz:Nat)(a:s8)
 |store(sz:Nat)(a v:s8)
 |storeN(sz:Nat)(a v:s8)(av:List Nat)
 |nilchk(x:s8)
 |bin(op:BinOp)(bt:Bool)(x y:s8)
 |un(op:UnOp)(x:s8)
 |conv(k:IntKind)(x:s8)
 |convId(x:s8)
 |convStr(x:s8)
 |makeSlice(k sz bytes:Nat)(z:PV)(len cap:s8)
 |slice(st:Bool)(sz:Nat)(x:s8)(lo hi mx:Option s8)
 |fieldAddr(off:Nat)(x:s8)
 |field(agg:Bool)(off sz:Nat)(x:s8)
 |indexAddr(sz:Nat)(x i:s8)
 |indexAddrA(n sz:Nat)(x i:s8)
 |indexA(agg:Bool)(n sz:Nat)(x i:s8)
 |indexS(x i:s8)
 |extract(x:s8)(i:Nat)
 |call(f:FuncId)(args:List s8)(ks:List (Nat×Nat))(al:Bool)
 |callv(f:s8)(args:List s8)
 |cally(f:s8)(args:List s8)
 |stuck
 |len(st:Bool)(x:s8)
 |lenK(n:Nat)
 |minmax(mx:Bool)(xs:List s8)
 |append(k sz bytes mode:Nat)(s x:s8)
 |appendF(k sz bytes:Nat)(s x:s8)
 |makeMap(k:Nat)(r:Option s8)
 |mapUpd(kt:Nat)(m x v:s8)
 |lookup(kt:Nat)(ok:Bool)(z:PV)(m x:s8)
 |lookupT(k kt sz:Nat)(z:PV)(m x:s8)
 |copy(sz:Nat)(d s:s8)
 |mkfn(f:Fn)(first captured:List s8)
 |allocA(k:Nat)(zs:List PV)
 |boxA(k:Nat)(x:s8)
 |loadA(n:Nat)(a:s8)
 |storeA(n:Nat)(a v:s8)
 |sliceA(n:Nat)(x:s8)(lo hi:Option s8)
 |sliceV(n sz:Nat)(x:s8)(lo hi:Option s8)
 |eqS(neg:Bool)(ts:List Nat)(x y:s8)
 |eqNil(neg:Bool)(x y:s8)
 |eqPtr(neg:Bool)(x y:s8)
 |clearM(m:s8)
 |clearS(z:PV)(x:s8)
 deriving Inhabited
structure k8 where
 op:N5
 var:Option Nat
 guard:Option (s8×Bool)
 hide:List Nat
 deriving Inhabited
abbrev oq(o:N5):k8:=⟨o,none,none,[]⟩
abbrev ow(v:Nat)(o:N5):k8:=⟨o,some v,none,[]⟩
abbrev oi(n:Int):s8:=.c (.int .i64 n)
inductive C6 where
 |skip
 |reg(ops:List k8)
 |seq(a b:C6)
 |cond(c:s8)(a b:C6)
 |block(id:Nat)(b:C6)
 |loop(b:C6)
 |loopS(live:List Nat)(c0:Nat)(b:C6)
 |G6(l:List (Nat×Bool))(b:C6)
 |G4(v:Nat)(c:Option Nat)(k sz:Nat)(b:C6)
 |rfor(g:s8)(ps:List (Option Nat))(a b:C6)
 |exit(id:Nat)
 |ret
 deriving Inhabited
def a4N(k:IntKind)(a b:Int):Int:=k.wrap ((BitVec.ofInt k.bits a&&&BitVec.ofInt k.bits b).toNat)
def orI(k:IntKind)(a b:Int):Int:=k.wrap ((BitVec.ofInt k.bits a|||BitVec.ofInt k.bits b).toNat)
def b8L(k:IntKind)(a b:Int):Int:=k.wrap ((BitVec.ofInt k.bits a^^^BitVec.ofInt k.bits b).toNat)
def b6X(k:IntKind)(a b:Int):Int:=k.wrap ((BitVec.ofInt k.bits a&&& ~~~(BitVec.ofInt k.bits b)).toNat)
def a6y(op:BinOp)(bt:Bool):PV→PV→Option PV
 | .int k a,.int k' b=>match op with
  | .shl=>if b<0 then none else some (.int k (k.wrap (a*2^(min b.toNat k.bits))))
  | .shr=>if b<0 then none else some (.int k (a.fdiv (2^(min b.toNat k.bits))))
  |_=>if k=k' then match op with
   | .add=>some (.int k (k.wrap (a+b)))
   | .sub=>some (.int k (k.wrap (a-b)))
   | .mul=>some (.int k (k.wrap (a*b)))
   | .quo=>if b=0 then none else some (.int k (k.wrap (a.tdiv b)))
   | .rem=>if b=0 then none else some (.int k (a.tmod b))
   | .and=>some (.int k (a4N k a b))
   | .or=>some (.int k (orI k a b))
   | .xor=>some (.int k (b8L k a b))
   | .andNot=>some (.int k (b6X k a b))
   | .eql=>some (.bool (a==b))
   | .neq=>some (.bool (a !=b))
   | .lss=>some (.bool (a<b))
   | .leq=>some (.bool (a≤b))
   | .gtr=>some (.bool (a>b))
   | .geq=>some (.bool (a≥b))
   |_=>none else none
 | .bool a,.bool b=>if bt=false then none else match op with
  | .eql=>some (.bool (a==b))
  | .neq=>some (.bool (a !=b))
  |_=>none
 | .str a,.str b=>match op with
  | .eql=>some (.bool (a.toList==b.toList))
  | .neq=>some (.bool !(a.toList==b.toList))
  | .add=>if((a.size+b.size:Nat):Int)>IntKind.i64.max then none else some (.str (a++b))
  | .lss=>some (.bool (Op.bytesLess a.toList b.toList))
  | .geq=>some (.bool !(Op.bytesLess a.toList b.toList))
  |_=>none
 |_,_=>none
def Q7:PV→Nat
 | .bool _=>0
 | .int _ _=>1
 | .str _=>2
 |_=>3
def a3O:List Nat→Nat
 | []=>0
 |t::ts=>t+1+4*a3O ts
def a1L:PV→Nat
 | .agg cs=>if cs.all (fun c=>Q7 c !=3)then 4+a3O (cs.map Q7)else 3
 |c=>Q7 c
def a0N:PV→PV→Option Bool
 | .int k a,.int k' b=>if k=k' then some (a==b)else none
 | .str a,.str b=>some (a==b)
 | .bool a,.bool b=>some (a==b)
 |_,_=>none
def U8:List PV→List PV→Option Bool
 | [],[]=>some true
 |a::l,b::m=>match a0N a b,U8 l m with
  |some x,some y=>some (x&&y)
  |_,_=>none
 |_,_=>none
def a0w:PV→PV→Option Bool
 | .agg l,.agg m=>U8 l m
 |x,y=>a0N x y
def W9(x:PV):List PV→Nat→Option (Option Nat)
 | [],_=>some none
 |e::ks,i=>match a0w x e with
  |some true=>some (some i)
  |some false=>W9 x ks (i+1)
  |none=>none
def fn0:PV→Bool
 | .fn (.func _) [] []=>true
 |_=>false
def unP(op:UnOp):PV→Option PV
 | .bool b=>match op with| .not=>some (.bool !b)|_=>none
 | .int k n=>match op with| .neg=>some (.int k (k.wrap (0-n)))|_=>none
 |_=>none
def T6:PV→Bool
 | .agg _| .tup _| .uslc _| .uu| .fn .. | .lst _=>false
 |_=>true
def one:PV→Bool
 | .fn _ a b=>a.all T6&&b.all T6
 |c=>T6 c
def A6:PV→Bool
 | .bool _| .int _ _| .str _| .lit _| .slc _| .J9 _ _| .fptr _=>true
 |_=>false
def I5:PV→Bool
 | .uslc _| .nils=>true
 |_=>false
def M1:PV→PV
 | .uslc es=>.slc es
 | .nils=>.slc []
 |c=>c
def B3:PV→PV
 | .agg cs=>.agg (cs.map M1)
 |c=>M1 c
def D4(e:PV):Bool:=(l6 e).all fun c=>A6 c||I5 c
def a1Z(agg:Bool)(sz:Nat)(cs:List PV)(off:Nat):Option PV:=
 if agg then(if off+sz≤cs.length then some (.agg ((cs.drop off).take sz))else none)else cs[off]?
def a1S(cs:List PV)(off:Nat):List PV→List PV
 | []=>cs
 |v::vs=>a1S (cs.set off v) (off+1) vs
def M4(e:PV)(j:Nat)(vs:List PV):PV:=
 match e with
 | .agg cs=>.agg (a1S cs j vs)
 |e=>vs.headD e
def ldC(k g ver i j:Nat):PV→PV
 | .uslc ns=>.nown k g ver i j 0 ns.length
 |c=>c
def a4u(k g ver i j:Nat):List PV→List PV
 | []=>[]
 |c::cs=>ldC k g ver i j c::a4u k g ver i (j+1) cs
abbrev Eff:=PV×List (Nat×Row)
abbrev D6:=Nat→Row
def a0j(lk:D6)(agg:Bool)(sz:Nat):PV→Option PV
 | .ptr k g o=>match lk k with
  |(g',.var cs)=>if g'=g then a1Z agg sz cs o else none
  |_=>none
 | .eptr k g gl s i j=>match lk k with
  |(g',.arr s' ver _ es)=>if g'=g∧es.length=gl∧s'=s then(match es[i]? with
   |some e=>match a1Z agg sz (l6 e) j with
    |some (.agg cs)=>if agg then some (.agg (a4u k g ver i j cs))else none
    |some c=>some (ldC k g ver i j c)
    |none=>none
   |none=>none)else none
  |_=>none
 | .nptr k g ver s i j m l=>match lk k with
  |(g',.arr _ ver' _ es)=>if g'=g∧ver'=ver then(match es[i]? with
   |some e=>match(l6 e)[j]? with
    |some (.uslc ns)=>match ns[m]? with
     |some x=>if(l6 x).length=s then a1Z agg sz (l6 x) l else none
     |none=>none
    |_=>none
   |none=>none)else none
  |_=>none
 | .fptr cs=>a1Z agg sz cs 0
 |_=>none
def a4z(lk:D6):PV→Option (PV×List Nat)
 | .own k g gl s o l=>match lk k with
  |(g',.arr s' _ fr es)=>if g'=g∧es.length=gl∧s'=s∧o=0∧l=gl∧es.all D4=true then(if fr then some (.slc (es.map B3),[])else some (.uslc (es.map B3),[k]))else none
  |_=>none
 | .nown .. | .nptr .. | .uu| .uslc _| .agg _| .tup _| .fn .. | .lst _| .any=>none
 |c=>some (c,[])
def a2i(lk:D6):List PV→Option (List PV×List Nat)
 | []=>some ([],[])
 |c::cs=>match a4z lk c,a2i lk cs with
  |some (d,ks),some (ds,ls)=>if ks.all (fun k=>!ls.contains k)then some (d::ds,ls++ks)else none
  |_,_=>none
def reE:PV→List PV→PV
 | .agg _,ds=>.agg ds
 |e,ds=>ds.headD e
def a6H(lk:D6)(e:PV):Option (PV×List Nat):=match a2i lk (l6 e)with
 |some (ds,ks)=>some (reE e ds,ks)
 |none=>none
def a3T(lk:D6):List PV→Option (List PV×List Nat)
 | []=>some ([],[])
 |c::cs=>match a6H lk c,a3T lk cs with
  |some (d,ks),some (ds,ls)=>if ks.all (fun k=>!ls.contains k)then some (d::ds,ls++ks)else none
  |_,_=>none
def kill(lk:D6)(ks:List Nat):List (Nat×Row):=ks.map fun k=>(k,((lk k).1,.dead))
def a5d(lk:D6)(sz:Nat)(a v:PV):Option (List (Nat×Row)):=
 if(l6 v).length=sz then
  match a with
  | .ptr k g o=>match lk k with
   |(g',.var cs)=>if g'=g∧o+sz≤cs.length∧(l6 v).all one=true then some [(k,(g,.var (a1S cs o (l6 v))))]else none
   |_=>none
  | .eptr k g gl s i j=>match lk k with
   |(g',.arr sz' ver fr es)=>if g'=g∧es.length=gl∧sz'=s∧fr=false then(match es[i]? with
    |some e=>if j+sz≤(l6 e).length then(match a2i lk (l6 v)with
     |some (ds,ks)=>if ks.contains k then none else
      some (kill lk ks++[(k,(g,.arr sz' (if(((l6 e).drop j).take sz).any I5||ds.any I5 then ver+1 else ver) fr (es.set i (M4 e j ds))))])
     |none=>none)else none
    |none=>none)else none
   |_=>none
  | .nptr k g ver s i j m l=>match lk k with
   |(g',.arr sz' ver' fr es)=>if g'=g∧ver'=ver∧fr=false then(match es[i]? with
    |some e=>match(l6 e)[j]? with
     |some (.uslc ns)=>match ns[m]? with
      |some x=>if(l6 x).length=s∧l+sz≤s∧(l6 v).all A6=true then
       some [(k,(g,.arr sz' ver fr (es.set i (M4 e j [.uslc (ns.set m (M4 x l (l6 v)))]))))]else none
      |none=>none
     |_=>none
    |none=>none)else none
   |_=>none
  |_=>none
 else none
def asInt:PV→Option Int
 | .int _ n=>some n
 |_=>none
def sliceB(n:Nat)(lo hi mx:Option PV):Option (Nat×Nat):=
 match(match hi with|some v=>asInt v|none=>some (n:Int)),(match lo with|some v=>asInt v|none=>some 0)with
 |some h,some l=>if 0≤l∧l≤h∧h≤n then(match mx with
  |none=>some (l.toNat,h.toNat)
  |some v=>if hi.isSome∧asInt v=some h then some (l.toNat,h.toNat)else none)else none
 |_,_=>none
def a2w(sz:Nat)(es:List PV):Bool:=es.all fun e=>(l6 e).length==sz
def isStr:PV→Bool
 | .str _=>true
 |_=>false
def a6G(st:Bool)(sz:Nat)(x:PV)(lo hi mx:Option PV):Option PV:=
 if isStr x !=st then none else match x with
 | .slc es=>match sliceB es.length lo hi mx with
  |some (l,h)=>if l=0∨a2w sz es=true then some (.slc ((es.drop l).take (h-l)))else none
  |none=>none
 | .own k g gl s o n=>if mx.isSome then(match sliceB n lo hi mx with
  |some (l,h)=>if sz=s∧l=0∧o=0∧h=gl then some (.own k g gl s 0 gl)else none
  |none=>none)else match sliceB n lo hi none with
  |some (l,h)=>if sz=s then some (.own k g gl s (o+l) (h-l))else none
  |none=>none
 | .nown k g ver i j o n=>if mx.isSome then none else match sliceB n lo hi none with
  |some (l,h)=>if l=0 then some (.nown k g ver i j o h)else none
  |none=>none
 | .nils=>match sliceB 0 lo hi mx with
  |some _=>some .nils
  |none=>none
 | .str s=>if mx.isSome then none else match sliceB s.size lo hi none with
  |some (l,h)=>some (.str (s.extract l h))
  |none=>none
 |_=>none
def b0j(st:Bool)(x:PV):Option Nat:=if isStr x !=st then none else match x with
 | .slc es=>some es.length
 | .own _ _ _ _ _ l=>some l
 | .nown _ _ _ _ _ _ l=>some l
 | .lst es=>some es.length
 | .vsl _ _ _ _ l=>some l
 | .nils=>some 0
 | .ne=>some 0
 | .str s=>some s.size
 |_=>none
def b0G(sz:Nat)(x:PV)(i:Int):Option PV:=
 if 0≤i then
  match x with
  | .slc es=>match es[i.toNat]? with
   |some e=>if(l6 e).length=sz∧sz≠0 then some (.fptr (l6 e))else none
   |none=>none
  | .own k g gl s o l=>if i<l∧sz=s then some (.eptr k g gl s (o+i.toNat) 0)else none
  | .nown k g ver ei ej o l=>if i<l then some (.nptr k g ver sz ei ej (o+i.toNat) 0)else none
  | .vsl k g o s l=>if i<l∧sz=s then some (.ptr k g (o+i.toNat*s))else none
  |_=>none
 else none
def a4s(off:Nat):PV→Option PV
 | .ptr k g o=>some (.ptr k g (o+off))
 | .eptr k g gl s i j=>some (.eptr k g gl s i (j+off))
 | .nptr k g ver s i j m l=>some (.nptr k g ver s i j m (l+off))
 | .fptr cs=>if off<cs.length then some (.fptr (cs.drop off))else none
 |_=>none
def b1l(sz:Nat)(p:PV)(m:Nat):Option PV:=match p with
 | .eptr k g gl s i j=>if s=sz∧j=0∧i+m<gl then some (.eptr k g gl s (i+m) 0)else a4s (m*sz) (.eptr k g gl s i j)
 |p=>a4s (m*sz) p
def a5R(lk:D6)(n:Nat)(p:PV):Option PV:=match p with
 | .eptr k g gl s i j=>if gl=n∧s=1∧i=0∧j=0 then(match lk k with
  |(g',.arr sz _ _ es)=>if g'=g∧es.length=n∧sz=1∧es.all A6=true then some (.agg es)else none
  |_=>none)else a0j lk true n (.eptr k g gl s i j)
 |p=>a0j lk true n p
def a6N(lk:D6)(n:Nat)(p v:PV):Option (List (Nat×Row)):=match p with
 | .eptr k g gl s i j=>if gl=n∧s=1∧i=0∧j=0 then(match v with
  | .agg cs=>match lk k with
   |(g',.arr sz ver fr es)=>if g'=g∧es.length=n∧sz=1∧fr=false∧es.all A6=true∧cs.length=n∧cs.all A6=true then some [(k,(g,.arr 1 ver false cs))]else none
   |_=>none
  |_=>none)else a5d lk n (.eptr k g gl s i j) v
 |p=>a5d lk n p v
def b1D(n:Nat)(p:PV)(lo hi:Option PV):Option PV:=match p with
 | .eptr k g gl s i j=>if gl=n∧s=1∧i=0∧j=0∧n≤1000000 then(match sliceB n lo hi none with
  |some (l,h)=>some (.own k g gl 1 l (h-l))
  |none=>none)else none
 |_=>none
def b0R(n sz:Nat)(p:PV)(lo hi:Option PV):Option PV:=match p with
 | .ptr k g o=>if n≤1000000 then(match sliceB n lo hi none with
  |some (l,h)=>some (.vsl k g (o+l*sz) sz (h-l))
  |none=>none)else none
 |_=>none
def a6d:PV→Bool
 | .own .. | .nils=>true
 |c=>A6 c
def b1m:PV→Option Bool
 | .nils=>some true
 | .ne=>some false
 | .lst _=>some false
 | .slc es=>if es.length=0 then none else some false
 | .own _ _ _ _ _ l=>if l=0 then none else some false
 | .nown _ _ _ _ _ _ l=>if l=0 then none else some false
 |_=>none
def eqC(t:Nat):PV→PV→Option Bool
 | .int k a,.int k' b=>if t=1∧k=k' then some (a==b)else none
 | .bool a,.bool b=>if t=0 then some (a==b)else none
 | .str a,.str b=>if t=2 then some (a.toList==b.toList)else none
 |_,_=>none
def a4V:List Nat→List PV→List PV→Option Bool
 | [],[],[]=>some true
 |t::ts,a::l,b::m=>match eqC t a b,a4V ts l m with
  |some x,some y=>some (x&&y)
  |_,_=>none
 |_,_,_=>none
def a7n:PV→Option UInt8
 | .int k n=>if k=.u8 then some (UInt8.ofNat n.toNat)else none
 |_=>none
def a1B:List PV→Option (List UInt8)
 | []=>some []
 |c::cs=>match a7n c,a1B cs with
  |some b,some bs=>some (b::bs)
  |_,_=>none
def a6n(cs:List PV):List (Nat×Nat×PV)→Option (List PV)
 | []=>some cs
 |(off,sz,v)::r=>if(l6 v).length=sz∧off+sz≤cs.length∧(l6 v).all one=true then a6n (a1S cs off (l6 v)) r else none
def a1N:PV→PV
 | .nils=>.slc []
 |c=>c
def a7m:PV→PV
 | .agg cs=>.agg (cs.map a1N)
 |c=>a1N c
def a2Z(sz:Nat)(es:List PV):List (Nat×PV)→Option (List PV)
 | []=>some es
 |(i,v)::r=>if(l6 v).length=sz∧i<es.length∧(l6 v).all one=true then a2Z sz (es.set i v) r else none
def a2z(lk:D6)(mode:Nat):PV→Option (List PV×List (Nat×Row))
 | .slc es=>some (es,[])
 | .lst es=>if es.length=0 then some ([],[])else none
 | .nils=>some ([],[])
 | .own k g gl s o l=>match lk k with
  |(g',.arr sz ver fr es)=>if g'=g∧es.length=gl∧sz=s∧o+l≤gl then
   (if mode=1 then(match a3T lk ((es.drop o).take l)with
    |some (ds,ks)=>if ks.contains k then none else some (ds,kill lk (ks++[k]))
    |none=>none)
   else if es.all D4=true∧(mode=2→es.all (fun e=>(l6 e).all A6)=true)then some (((es.drop o).take l).map B3,if es.all (fun e=>(l6 e).all A6)then []else [(k,(g,.arr sz (ver+1) fr (es.map B3)))])else none)else none
  |_=>none
 | .nown k g ver i j o l=>match lk k with
  |(g',.arr _ ver' _ es)=>if g'=g∧ver'=ver then(match es[i]? with
   |some e=>match(l6 e)[j]? with
    |some (.uslc ns)=>if o=0∧l≤ns.length then some (ns.take l,[])else none
    |_=>none
   |none=>none)else none
  |_=>none
 |_=>none
def a8Y:PV→Option (List PV×List (Nat×Row))
 | .int _ n=>if 0≤n∧n≤140737488355328 then some (List.replicate n.toNat (.int .u8 0),[])else none
 |_=>none
def a9s:PV→Option (List PV×List (Nat×Row))
 | .str s=>some (s.data.toList.map (fun b=>.int .u8 b.toNat),[])
 |_=>none
def a1q(lk:D6)(mode:Nat)(p:PV):Option (List PV×List (Nat×Row)):=if mode=4 then a8Y p else if mode=5 then a9s p else a2z lk mode p
def a1r(lk:D6)(k sz bytes:Nat)(s:PV)(news:List PV):Option Eff:=
 match s with
 | .nils=>if news.length*bytes≤140737488355328 then some (.own k ((lk k).1+1) news.length sz 0 news.length,[(k,((lk k).1+1,.arr sz 0 false news))])else none
 | .ne=>if news.length≠0∧news.length*bytes≤140737488355328 then some (.own k ((lk k).1+1) news.length sz 0 news.length,[(k,((lk k).1+1,.arr sz 0 false news))])else none
 | .own k1 g gl s o l=>match lk k1 with
  |(g',.arr sz1 ver fr es)=>if g'=g∧es.length=gl∧sz1=sz∧s=sz∧fr=false∧o=0∧l≤gl∧(l+news.length)*bytes≤140737488355328 then
   (if l=gl then some (.own k1 g (gl+news.length) sz 0 (gl+news.length),[(k1,(g,.arr sz ver fr (es++news)))])
    else some (.own k1 g (es.take l++news++es.drop (l+news.length)).length sz 0 (l+news.length),[(k1,(g,.arr sz (ver+1) fr (es.take l++news++es.drop (l+news.length))))]))else none
  |_=>none
 |_=>none
def a4T(k:Nat):PV→Nat
 | .own k1 _ _ _ _ _=>k1
 |_=>k
def a9N:PV→Bool
 | .own .. =>true
 |_=>false
def a5a(k mode sz:Nat)(s:PV)(news:List PV)(ws:List (Nat×Row)):Bool:=
 !(ws.map (·.1)).contains (a4T k s)&&(mode !=2||(a9N s&&a4T k s==k))&&a2w sz news
def a7Q(sz:Nat):PV→List (Nat×Row)→Option (PV×List (Nat×Row))
 | .own k g gl s o l,[(k',(g',.arr sz' ver fr es))]=>if k'=k∧g'=g∧es.length=gl∧s=sz∧sz'=sz∧fr=false∧o=0∧l=gl∧es.all D4=true then some (.slc (es.map B3),[(k,(g,.arr sz ver false es)),(k,(g,.arr sz (ver+1) true (es.map B3)))])else none
 |_,_=>none
def a6r(mx:Bool):Int→List PV→Option Int
 |m,[]=>some m
 |m,.int _ y::r=>a6r mx (if mx then(if y>m then y else m)else(if y<m then y else m)) r
 |_,_=>none
def a6O(lk:D6)(sz:Nat)(d:PV)(news:List PV)(ws:List (Nat×Row)):Option Eff:=
 if a2w sz news then match d with
  | .nils=>some (.int .i64 0,ws)
  | .own k g gl s o l=>match lk k with
   |(g',.arr sz1 ver fr es)=>if g'=g∧es.length=gl∧sz1=sz∧s=sz∧fr=false∧o+l≤gl∧(ws.map (·.1)).contains k=false then
    (if(news.take l).length=0 then some (.int .i64 0,ws)else some (.int .i64 ((news.take l).length:Nat),ws++[(k,(g,.arr sz (ver+1) fr (es.take o++news.take l++es.drop (o+(news.take l).length))))]))else none
   |_=>none
  |_=>none
 else none
def mvS(c:PV):Bool:=A6 c||I5 c||fn0 c
def mvR:PV→Bool
 | .nils=>true
 | .agg cs=>cs.all A6
 |c=>A6 c||fn0 c
def a5Q(lk:D6)(v:PV):Option (PV×List Nat):=if one v=true then a4z lk v else if mvR v=true then some (v,[])else none
def a7c(lk:D6)(kt:Nat)(m x v:PV):Option Eff:=match m with
 | .mapv k g=>match lk k with
  |(g',.mp fr ks vs)=>if g'=g∧fr=false∧a1L x=kt∧kt≠3 then(match a5Q lk v with
   |some (d,kl)=>if kl.contains k then none else(match W9 x ks 0 with
    |some (some i)=>some (.uu,kill lk kl++[(k,(g,.mp false ks (vs.set i d)))])
    |some none=>some (.uu,kill lk kl++[(k,(g,.mp false (ks++[x]) (vs++[d])))])
    |none=>none)
   |none=>none)else none
  |_=>none
 |_=>none
def a3z(kt:Nat)(ok:Bool)(z x:PV)(ks vs:List PV):Option Eff:=
 if a1L x=kt∧kt≠3 then(match W9 x ks 0 with
  |some (some i)=>match vs[i]? with
   |some c=>if mvR c=true then some (if ok then .tup [c,.bool true]else c,[])else none
   |none=>none
  |some none=>some (if ok then .tup [z,.bool false]else z,[])
  |none=>none)else none
def a6R(lk:D6)(kt:Nat)(ok:Bool)(z m x:PV):Option Eff:=match m with
 | .mapv k g=>match lk k with
  |(g',.mp _ ks vs)=>if g'=g then a3z kt ok z x ks vs else none
  |_=>none
 | .J9 ks vs=>a3z kt ok z x ks vs
 | .lit (.map none)=>a3z kt ok z x [] []
 |_=>none
def a5l(lk:D6)(k3 kt sz:Nat)(z m x:PV):Option Eff:=match m with
 | .mapv k g=>match lk k with
  |(g',.mp fr ks vs)=>if g'=g∧a1L x=kt∧kt≠3∧k≠k3 then(match W9 x ks 0 with
   |some (some i)=>match vs[i]? with
    |some (.uslc ns)=>if fr=false then(match lk k3 with
     |(g3,.dead)=>if 0<ns.length∧a2w sz ns=true then some (.own k3 (g3+1) ns.length sz 0 ns.length,[(k,(g,.mp false ks (vs.set i .any))),(k3,(g3+1,.arr sz 0 false ns))])else none
     |_=>none)else none
    |some c=>if mvR c=true then some (c,[])else none
    |none=>none
   |some none=>some (z,[])
   |none=>none)else none
  |_=>none
 |_=>none
def a9F:PV→Option Bool
 | .lit (.pointer none)=>some true
 | .ptr .. | .eptr .. | .nptr .. | .fptr _=>some false
 |_=>none
def b0H:PV→Bool
 | .lit (.pointer none)=>true
 |_=>false
def a7j(lk:D6):PV→Option Eff
 | .mapv k g=>match lk k with
  |(g',.mp fr _ _)=>if g'=g∧fr=false then some (.tup [],[(k,(g,.mp false [] []))])else none
  |_=>none
 | .lit (.map none)=>some (.tup [],[])
 |_=>none
def a6K(lk:D6)(z:PV):PV→Option Eff
 | .nils=>some (.tup [],[])
 | .nown k g ver i j o l=>match lk k with
  |(g',.arr s ver' fr es)=>if g'=g∧ver'=ver∧fr=false∧o=0∧A6 z=true then(match es[i]? with
   |some e=>match(l6 e)[j]? with
    |some (.uslc ns)=>if ns.length=l∧a2w 1 ns=true then some (.tup [],[(k,(g,.arr s ver fr (es.set i (M4 e j [.uslc (List.replicate l z)]))))])else none
    |_=>none
   |none=>none)else none
  |_=>none
 |_=>none
def a2b(ws:List (Nat×Row)):PV→Bool
 | .ptr k _ _=>!(ws.map (·.1)).contains k
 | .eptr k _ _ _ _ _=>!(ws.map (·.1)).contains k
 | .nptr k _ _ _ _ _ _ _=>!(ws.map (·.1)).contains k
 | .fptr _=>true
 |_=>false
def avO(n:Nat):s8:=if Nat.blt n 1000000 then .l n else .v (n-1000000)
def s9(ev:s8→PV)(lk:D6):N5→Option Eff
 | .mv x=>some (ev x,[])
 | .pick c a b=>match ev c with
  | .bool t=>some (if t then ev a else ev b,[])
  |_=>none
 | .alloc k zs=>if zs.all one then some (.ptr k ((lk k).1+1) 0,[(k,((lk k).1+1,.var zs))])else none
 | .box k x=>if(l6 (ev x)).all one then some (.ptr k ((lk k).1+1) 0,[(k,((lk k).1+1,.var (l6 (ev x))))])else none
 | .build zs parts=>match a6n zs (parts.map fun x=>(x.1,x.2.1,ev x.2.2))with
  |some cs=>some (.agg cs,[])
  |none=>none
 | .mkarr k sz es parts=>match a2Z sz es (parts.map fun x=>(x.1,ev x.2))with
  |some es=>some (.own k ((lk k).1+1) es.length sz 0 es.length,[(k,((lk k).1+1,.arr sz 0 false es))])
  |none=>none
 | .lit sz es parts=>if sz=0 then(if es.length=0 then some (.ne,[])else none)else match a2Z sz es (parts.map fun x=>(x.1,ev x.2))with
  |some es=>if es.all (fun e=>(l6 (a7m e)).all A6)then some (.slc (es.map a7m),[])else if sz=1∧es.all a6d=true then some (.lst es,[])else none
  |none=>none
 | .load agg sz a=>match a0j lk agg sz (ev a)with
  |some v=>some (v,[])
  |none=>none
 | .loadV agg sz a=>match ev a with
  | .ptr k g o=>match a0j lk agg sz (.ptr k g o)with
   |some v=>some (v,[])
   |none=>none
  |_=>none
 | .store sz a v=>match a5d lk sz (ev a) (ev v)with
  |some ws=>some (.uu,ws)
  |none=>none
 | .storeN sz a v av=>match a5d lk sz (ev a) (ev v)with
  |some ws=>if av.all (fun n=>a2b ws (ev (avO n)))=true then some (.uu,ws)else none
  |none=>none
 | .nilchk x=>match ev x with
  | .ptr .. | .eptr .. | .nptr .. | .fptr .. =>some (ev x,[])
  | .fn (.func f) a b=>some (.fn (.func f) a b,[])
  |_=>none
 | .bin op bt x y=>match a6y op bt (ev x) (ev y)with
  |some v=>some (v,[])
  |none=>none
 | .un op x=>match unP op (ev x)with
  |some v=>some (v,[])
  |none=>none
 | .conv k x=>match ev x with
  | .int _ n=>some (.int k (k.wrap n),[])
  |_=>none
 | .convId x=>match ev x with
  | .str s=>some (.str s,[])
  |_=>none
 | .makeSlice k sz bytes z len cap=>match ev len,ev cap with
  | .int .i64 l,.int .i64 c=>if 0≤l∧l≤c∧c*bytes≤140737488355328∧c≤9223372036854775807 then
   some (.own k ((lk k).1+1) l.toNat sz 0 l.toNat,[(k,((lk k).1+1,.arr sz 0 false (List.replicate l.toNat z)))])else none
  |_,_=>none
 | .slice st sz x lo hi mx=>match a6G st sz (ev x) (lo.map ev) (hi.map ev) (mx.map ev)with
  |some v=>some (v,[])
  |none=>none
 | .fieldAddr off x=>match a4s off (ev x)with
  |some v=>some (v,[])
  |none=>none
 | .field agg off sz x=>match ev x with
  | .agg cs=>match a1Z agg sz cs off with
   |some v=>some (v,[])
   |none=>none
  |_=>none
 | .indexAddr sz x i=>match ev i with
  | .int _ n=>match b0G sz (ev x) n with
   |some v=>some (v,[])
   |none=>none
  |_=>none
 | .indexAddrA n sz x i=>match ev i with
  | .int _ m=>if 0≤m∧m<n then(match b1l sz (ev x) m.toNat with
   |some v=>some (v,[])
   |none=>none)else none
  |_=>none
 | .indexA agg n sz x i=>match ev i,ev x with
  | .int _ m,.agg cs=>if 0≤m∧m<n then(match a1Z agg sz cs (m.toNat*sz)with
   |some v=>some (v,[])
   |none=>none)else none
  |_,_=>none
 | .indexS x i=>match ev i,ev x with
  | .int _ m,.str s=>if 0≤m then(match s.data.toList[m.toNat]? with
   |some b=>some (.int .u8 b.toNat,[])
   |none=>none)else none
  |_,_=>none
 | .extract x i=>match ev x with
  | .tup vs=>match vs[i]? with
   |some v=>some (v,[])
   |none=>none
  |_=>none
 | .len st x=>match b0j st (ev x)with
  |some n=>some (.int .i64 n,[])
  |none=>none
 | .lenK n=>some (.int .i64 n,[])
 | .minmax mx xs=>match xs.map ev with
  | .int k n::r=>match a6r mx n r with
   |some m=>some (.int k m,[])
   |none=>none
  |_=>none
 | .append k sz bytes mode s x=>match a1q lk mode (ev x)with
  |some (news,ws)=>if a5a k mode sz (ev s) news ws then(match a1r lk k sz bytes (ev s) news with
   |some (v,ws')=>some (v,ws++ws')
   |none=>none)else none
  |none=>none
 | .appendF k sz bytes s x=>match a1q lk 2 (ev x)with
  |some (news,ws)=>if a5a k 2 sz (ev s) news ws then(match a1r lk k sz bytes (ev s) news with
   |some (v,ws')=>a7Q sz v ws'
   |none=>none)else none
  |none=>none
 | .makeMap k r=>match r.map ev with
  |none=>some (.mapv k ((lk k).1+1),[(k,((lk k).1+1,.mp false [] []))])
  |some (.int _ _)=>some (.mapv k ((lk k).1+1),[(k,((lk k).1+1,.mp false [] []))])
  |_=>none
 | .mapUpd kt m x v=>a7c lk kt (ev m) (ev x) (ev v)
 | .lookup kt ok z m x=>a6R lk kt ok z (ev m) (ev x)
 | .lookupT k kt sz z m x=>a5l lk k kt sz z (ev m) (ev x)
 | .mkfn f a b=>if(a.map ev).all one=true∧(b.map ev).all one=true then some (.fn f (a.map ev) (b.map ev),[])else none
 | .copy sz d s=>match a1q lk 0 (ev s)with
  |some (news,ws)=>a6O lk sz (ev d) news ws
  |none=>none
 | .allocA k zs=>if zs.all A6=true∧0<zs.length∧zs.length≤1000000 then some (.eptr k ((lk k).1+1) zs.length 1 0 0,[(k,((lk k).1+1,.arr 1 0 false zs))])else none
 | .boxA k x=>if(l6 (ev x)).all A6=true∧0<(l6 (ev x)).length∧(l6 (ev x)).length≤1000000 then some (.eptr k ((lk k).1+1) (l6 (ev x)).length 1 0 0,[(k,((lk k).1+1,.arr 1 0 false (l6 (ev x))))])else none
 | .loadA n a=>match a5R lk n (ev a)with
  |some v=>some (v,[])
  |none=>none
 | .storeA n a v=>match a6N lk n (ev a) (ev v)with
  |some ws=>some (.uu,ws)
  |none=>none
 | .sliceA n x lo hi=>match b1D n (ev x) (lo.map ev) (hi.map ev)with
  |some v=>some (v,[])
  |none=>none
 | .sliceV n sz x lo hi=>match b0R n sz (ev x) (lo.map ev) (hi.map ev)with
  |some v=>some (v,[])
  |none=>none
 | .eqS neg ts x y=>match ev x,ev y with
  | .agg l,.agg m=>match a4V ts l m with
   |some b=>some (.bool (neg !=b),[])
   |none=>none
  |_,_=>none
 | .eqNil neg x y=>match b1m (ev x),ev y with
  |some b,.nils=>some (.bool (neg !=b),[])
  |_,_=>none
 | .eqPtr neg x y=>match a9F (ev x)with
  |some b=>if b0H (ev y)=true then some (.bool (neg !=b),[])else none
  |none=>none
 | .clearM m=>a7j lk (ev m)
 | .clearS z x=>a6K lk z (ev x)
 | .convStr x=>match a1q lk 2 (ev x)with
  |some (news,_)=>match a1B news with
   |some bs=>some (.str ⟨⟨bs⟩⟩,[])
   |none=>none
  |none=>none
 | .call .. | .callv .. | .cally .. | .stuck=>none
def fzL(lk:D6):PV→PV
 | .own k g gl s o l=>match lk k with
  |(g',.arr s' _ _ es)=>if g'=g∧es.length=gl∧s'=s∧o+l≤gl∧es.all D4=true then .slc (((es.drop o).take l).map B3)else .uu
  |_=>.uu
 | .nils=>.slc []
 | .bool b=>.bool b
 | .int k n=>.int k n
 | .str t=>.str t
 | .lit v=>.lit v
 | .slc es=>.slc es
 | .J9 ks vs=>.J9 ks vs
 | .fptr cs=>.fptr cs
 |_=>.uu
def fzC(lk:D6):PV→PV
 | .lst es=>if(es.map (fzL lk)).all A6 then .slc (es.map (fzL lk))else .uu
 | .own k g gl s o l=>match lk k with
  |(g',.arr s' _ _ es)=>if g'=g∧es.length=gl∧s'=s∧o+l≤gl∧es.all D4=true then .slc (((es.drop o).take l).map B3)else .uu
  |_=>.uu
 | .nown k g ver i j o l=>match lk k with
  |(g',.arr _ ver' _ es)=>if g'=g∧ver'=ver then(match es[i]? with
   |some e=>match(l6 e)[j]? with
    |some (.uslc ns)=>if o=0∧l≤ns.length then .slc (ns.take l)else .uu
    |_=>.uu
   |none=>.uu)else .uu
  |_=>.uu
 | .ne=>.slc []
 | .nils=>.slc []
 | .bool b=>.bool b
 | .int k n=>.int k n
 | .str t=>.str t
 | .lit v=>.lit v
 | .slc es=>.slc es
 | .J9 ks vs=>.J9 ks vs
 | .fptr cs=>.fptr cs
 |_=>.uu
def fzP(lk:D6):PV→PV
 | .ptr k g o=>match lk k with
  |(g',.var cs)=>if g'=g∧((cs.drop o).map (fzC lk)).all A6=true then .fptr ((cs.drop o).map (fzC lk))else .uu
  |_=>.uu
 | .eptr k g gl s i j=>match lk k with
  |(g',.arr s' _ _ es)=>if g'=g∧es.length=gl∧s'=s∧j=0 then(match es[i]? with
   |some e=>if((l6 e).map M1).all A6=true then .fptr ((l6 e).map M1)else .uu
   |none=>.uu)else .uu
  |_=>.uu
 |c=>fzC lk c
def fzV(lk:D6):PV→PV
 | .agg cs=>.agg (cs.map (fzC lk))
 |c=>fzP lk c
def a9R(lk:D6):PV→Bool
 | .own k _ _ _ _ _=>match(lk k).2 with
  | .arr _ _ true _=>false
  |_=>true
 |_=>false
def a7q(lk:D6):PV→Bool
 | .own k _ _ _ _ _=>match(lk k).2 with
  | .arr _ _ true _=>false
  |_=>true
 | .nown .. =>true
 | .mapv k _=>match(lk k).2 with
  | .mp true _ _=>false
  |_=>true
 | .lst es=>es.any (a9R lk)
 | .ptr .. =>true
 | .eptr .. =>true
 |_=>false
def a2g(lk:D6)(v:PV):Bool:=(l6 v).any (a7q lk)
def b3t:PV→Bool
 | .slc _| .uslc _| .J9 _ _| .fptr _=>false
 |_=>true
def a6o:PV→Bool
 | .slc _| .J9 _ _| .fptr _=>false
 | .uslc es=>es.all fun e=>(l6 e).all b3t
 |_=>true
def a2H:PV→Bool
 | .slc _| .J9 _ _| .fptr _=>false
 | .uslc es=>es.all fun e=>(l6 e).all a6o
 |_=>true
def a0m:PV→List PV
 | .tup vs=>vs
 |c=>[c]
def noS(r:PV):Bool:=(a0m r).all fun c=>(l6 c).all a2H
def M5(kz:Nat×Nat)(gen:Nat→Nat):PV→PV
 | .uslc es=>.own kz.1 (gen kz.1) es.length kz.2 0 es.length
 | .nils=>.nils
 | .bool b=>.bool b
 | .int k n=>.int k n
 | .str t=>.str t
 | .lit v=>.lit v
 | .slc es=>.slc es
 | .J9 ks vs=>.J9 ks vs
 | .fptr cs=>.fptr cs
 |_=>.uu
def a1O(ks:Nat→Nat×Nat)(gen:Nat→Nat):Nat→List PV→List PV
 |_,[]=>[]
 |p,c::cs=>M5 (ks p) gen c::a1O ks gen (p+1) cs
def a2c(ks:Nat→Nat×Nat)(gen:Nat→Nat)(p:Nat):PV→PV
 | .agg cs=>.agg (a1O ks gen p cs)
 |c=>M5 (ks p) gen c
def a1z(ks:Nat→Nat×Nat)(gen:Nat→Nat):Nat→List PV→List PV
 |_,[]=>[]
 |p,c::cs=>a2c ks gen p c::a1z ks gen (p+(l6 c).length) cs
def X2(ks:Nat→Nat×Nat)(gen:Nat→Nat):PV→PV
 | .tup vs=>.tup (a1z ks gen 0 vs)
 |c=>a2c ks gen 0 c
def B5(r:PV):List PV:=(a0m r).flatMap l6
def J4(ks:Nat→Nat×Nat)(gen:Nat→Nat):Nat→List PV→List (Nat×Row)
 |_,[]=>[]
 |p,.uslc es::cs=>((ks p).1,(gen (ks p).1,.arr (ks p).2 0 false es))::J4 ks gen (p+1) cs
 |p,_::cs=>J4 ks gen (p+1) cs
def a3j:List Nat→Bool
 | []=>true
 |k::l=>!l.contains k&&a3j l
def m6(h:l5)(ws:List (Nat×Row)):l5:=ws.foldl (fun h x=>h.set x.1 x.2) h
def l8(h:l5)(hide:List Nat):D6:=fun k=>if hide.contains k then(0,.dead)else h.getD k (0,.dead)
def rOk(r:PV):Bool:=(B5 r).all fun c=>match c with
 | .uslc es=>es.all D4
 |_=>true
structure B0 where
 loc:List PV
 vars:List PV
 heap:l5
def y9(loc vars:List PV):s8→PV
 | .l i=>loc.getD i .uu
 | .v i=>vars.getD i .uu
 | .c p=>p
def K6(vars:List PV)(k:Option Nat)(v:PV):List PV:=
 match k with
 |some k=>vars.set k v
 |none=>vars
def gdO(loc vars:List PV):Option (s8×Bool)→Option Bool
 |none=>some true
 |some (o,b)=>match y9 loc vars o with
  | .bool c=>some (c==b)
  | .tup []=>some false
  |_=>none
def N6(ks:List (Nat×Nat))(p:Nat):Nat×Nat:=ks.getD p (0,0)
def Y1(lk:D6)(k:Nat):Nat:=(lk k).1+1
def a4g(n:Nat)(ks:List (Nat×Nat))(own:Bool)(r:PV):Bool:=
 let sites:=(J4 (N6 ks) (fun _=>0) 0 (B5 r)).map (·.1)
 rOk r&&a3j sites&&sites.all (fun k=>Nat.blt k n&&((ks.filter (·.2 !=0)).map (·.1)).contains k)&&(!own||noS r)
inductive O6 where
 |normal
 |exit(id:Nat)
 |ret
abbrev YT:=List PV→l5→(Option O6→l5→Prop)→Prop
structure N2 where
 fn:FuncId→List Nat→List PV→PV→Prop
 fi:PV→List PV→l5→PV→List (Nat×Row)→Prop
 fy:PV→List PV→List PV→l5→(PV→List PV→l5→Prop)→Prop
 it:PV→YT→l5→(Option O6→l5→Prop)→Prop
 my:∀{v a vs h} {K K':PV→List PV→l5→Prop},(∀r vs h,K r vs h→K' r vs h)→fy v a vs h K→fy v a vs h K'
 mi:∀{v Y h} {K K':Option O6→l5→Prop},(∀p h,K p h→K' p h)→it v Y h K→it v Y h K'
def agr(hide:List Nat)(h h':l5):Prop:=h'.length=h.length∧∀k,hide.contains k=false→h'[k]?=h[k]?
def a2v(hide:List Nat)(ev:s8→PV)(ws:List (Nat×Row)):Bool:=ws.all (fun y=>!hide.contains y.1)&&hide.all fun n=>Nat.blt n 1000000||a2b ws (ev (avO (n-1000000)))
def fiH(fi:PV→List PV→l5→PV→List (Nat×Row)→Prop)(hide:List Nat)(ev:s8→PV)(v:PV)(a:List PV)(h:l5)(r:PV)(ws:List (Nat×Row)):Prop:=match hide with
 | []=>fi v a h r ws
 |k::l=>(∀h',agr (k::l) h h'→fi v a h' r ws)∧a2v (k::l) ev ws=true
def a3f(p:PV):Bool:=(l6 p).all fun c=>A6 c||(match c with| .nils=>true|_=>false)
def F8(FN:N2):List k8→B0→(B0→Prop)→Prop
 | [],st,Q=>Q st
 |x::xs,st,Q=>match gdO st.loc st.vars x.guard with
  |none=>False
  |some false=>F8 FN xs ⟨st.loc++[.tup []],K6 st.vars x.var (.tup []),st.heap⟩ Q
  |some true=>match x.op with
   | .call f args ks al=>∃r,(al=true→args.all (fun a=>a3f (y9 st.loc st.vars a))=true)∧FN.fn f (ks.map (·.2)) (args.map fun a=>fzV (l8 st.heap x.hide) (y9 st.loc st.vars a)) r∧
    a4g st.heap.length ks ((args.map (y9 st.loc st.vars)).any (a2g (l8 st.heap x.hide))) r=true∧
    F8 FN xs ⟨st.loc++[X2 (N6 ks) (Y1 (l8 st.heap x.hide)) r],K6 st.vars x.var (X2 (N6 ks) (Y1 (l8 st.heap x.hide)) r),m6 st.heap (J4 (N6 ks) (Y1 (l8 st.heap x.hide)) 0 (B5 r))⟩ Q
   | .callv f args=>∃r ws,fiH FN.fi x.hide (y9 st.loc st.vars) (y9 st.loc st.vars f) (args.map (y9 st.loc st.vars)) st.heap r ws∧F8 FN xs ⟨st.loc++[r],K6 st.vars x.var r,m6 st.heap ws⟩ Q
   | .cally f args=>FN.fy (y9 st.loc st.vars f) (args.map (y9 st.loc st.vars)) st.vars st.heap fun r vs h=>h.length=st.heap.length∧F8 FN xs ⟨st.loc++[r],K6 vs x.var r,h⟩ Q
   |op=>match s9 (y9 st.loc st.vars) (l8 st.heap x.hide) op with
    |some (p,ws)=>F8 FN xs ⟨st.loc++[p],K6 st.vars x.var p,m6 st.heap ws⟩ Q
    |none=>False
abbrev I9:=O6→List PV→l5→Prop
def a2m(K:List PV→l5→Prop)(Q:I9):I9
 | .normal,vs,h=>K vs h
 |e,vs,h=>Q e vs h
def xin(id:Nat)(Q:I9):I9
 | .exit i,vs,h=>if i=id then Q .normal vs h else Q (.exit i) vs h
 |e,vs,h=>Q e vs h
def a3B(body:I9→List PV→l5→Prop)(Q:I9):Nat→List PV→l5→Prop
 |0,_,_=>False
 |n+1,vs,h=>body (a2m (a3B body Q n) Q) vs h
def b3e:N5→Nat
 | .alloc .. | .box .. | .mkarr .. | .makeSlice .. | .append .. | .appendF .. | .allocA .. | .boxA .. | .makeMap .. | .lookupT .. =>1
 | .call _ _ ks _=>(ks.filter (·.2 !=0)).length
 |_=>0
def G8:N5→List Nat
 | .alloc k _| .box k _| .mkarr k _ _ _| .makeSlice k _ _ _ _ _| .append k _ _ _ _ _| .appendF k _ _ _ _| .allocA k _| .boxA k _| .makeMap k _| .lookupT k _ _ _ _ _=>[k]
 | .call _ _ ks _=>(ks.filter (·.2 !=0)).map (·.1)
 |_=>[]
def a2a(n:Nat)(xs:List k8):Bool:=xs.all fun x=>(G8 x.op).all fun k=>Nat.blt k n&&!x.hide.contains k
def a8P(ks:List Nat)(k:Nat):List Nat:=if ks.contains k then ks else ks++[k]
def b9L(ks:List Nat):PV→List Nat
 | .own k _ _ _ _ _=>a8P ks k
 | .ptr k _ _=>a8P ks k
 | .eptr k _ _ _ _ _=>a8P ks k
 | .mapv k _=>a8P ks k
 |_=>ks
def b2H(ks:List Nat)(cs:List PV):List Nat:=cs.foldl b9L ks
def b1Q(vs:List PV)(live:List Nat):List Nat:=live.foldl (fun ks v=>b2H ks (l6 (vs.getD v .uu))) []
def b9n(h:l5)(a:List Nat)(k:Nat):List Nat:=match(h.getD k (0,.dead)).2 with
 | .var cs=>b2H a cs
 |_=>a
def sKs(live:List Nat)(vs:List PV)(h:l5):List Nat:=(b1Q vs live).foldl (b9n h) (b1Q vs live)
def ren(ks:List Nat)(c0:Nat)(h:l5):PV→PV
 | .own k g gl s o l=>match ks.idxOf? k with
  |some i=>.own (c0+i) (if(h.getD k (0,.dead)).1=g then 1 else 0) gl s o l
  |none=>.uu
 | .ptr k g o=>match ks.idxOf? k with
  |some i=>.ptr (c0+i) (if(h.getD k (0,.dead)).1=g then 1 else 0) o
  |none=>.uu
 | .eptr k g gl s i j=>match ks.idxOf? k with
  |some n=>.eptr (c0+n) (if(h.getD k (0,.dead)).1=g then 1 else 0) gl s i j
  |none=>.uu
 | .bool b=>.bool b
 | .int k n=>.int k n
 | .str s=>.str s
 | .lit v=>.lit v
 | .nils=>.nils
 | .slc es=>.slc es
 | .mapv k g=>match ks.idxOf? k with
  |some i=>.mapv (c0+i) (if(h.getD k (0,.dead)).1=g then 1 else 0)
  |none=>.uu
 | .J9 us vs=>.J9 us vs
 | .fptr cs=>.fptr cs
 |_=>.uu
def a8v(ks:List Nat)(c0:Nat)(h:l5):PV→PV
 | .agg cs=>.agg (cs.map (ren ks c0 h))
 |c=>ren ks c0 h c
def a0n(ks:List Nat)(c0:Nat)(h:l5):Ob→Ob
 | .var cs=>if(cs.map (ren ks c0 h)).all one then .var (cs.map (ren ks c0 h))else .dead
 | .arr sz _ fr es=>if es.all D4 then .arr sz 0 fr es else .dead
 | .mp fr us vs=>if vs.all mvS then .mp fr us vs else .dead
 | .dead=>.dead
def b1C(ks:List Nat)(c0:Nat)(h:l5)(p:Nat):Row:=if p<c0 then(0,.dead)else match ks[p-c0]? with
 |some k=>(1,a0n ks c0 h (h.getD k (0,.dead)).2)
 |none=>(0,.dead)
def a5S(f:Nat→Row):Nat→Nat→l5
 |0,_=>[]
 |n+1,p=>f p::a5S f n (p+1)
def a3N(ks:List Nat)(c0:Nat)(h:l5):l5:=a5S (b1C ks c0 h) h.length 0
def sVs(live ks:List Nat)(c0:Nat)(h:l5):Nat→List PV→List PV
 |_,[]=>[]
 |i,v::vs=>(if live.contains i then a8v ks c0 h v else .uu)::sVs live ks c0 h (i+1) vs
def sOk(ks:List Nat)(c0:Nat)(h:l5):Bool:=a3j ks&&Nat.ble (c0+ks.length) h.length
def settled(live:List Nat)(c0:Nat)(vs:List PV)(h:l5)(K:List PV→l5→Prop):Prop:=
 sOk (sKs live vs h) c0 h=true∧K (sVs live (sKs live vs h) c0 h 0 vs) (a3N (sKs live vs h) c0 h)
def a0a(h:l5):PV→PV
 | .own k g gl s o l=>match h.getD k (0,.dead)with
  |(g',.arr s' _ fr es)=>if g'=g∧es.length=gl∧s'=s∧o=0∧l=gl∧fr=true∧es.all D4=true then .slc (es.map B3)else .own k g gl s o l
  |_=>.own k g gl s o l
 | .mapv k g=>match h.getD k (0,.dead)with
  |(g',.mp fr ks vs)=>if g'=g∧fr=true∧vs.all (fun c=>A6 c||fn0 c)=true then .J9 ks vs else .mapv k g
  |_=>.mapv k g
 |c=>c
def a4x(h:l5):PV→PV
 | .agg cs=>.agg (cs.map (a0a h))
 |c=>a0a h c
def a0q(h:l5)(r:Bool):Ob→Ob
 | .arr sz ver fr es=>if es.all D4 then .arr sz (ver+1) (fr||r) (es.map B3)else if fr=false then .arr sz ver false (es.map (a4x h))else .arr sz ver fr es
 | .var cs=>.var (cs.map (a0a h))
 | .mp fr us vs=>if vs.all mvS then .mp (fr||r) us (vs.map M1)else .mp fr us vs
 | .dead=>.dead
def a8c(k1 k3:Nat)(h:l5):l5:=match h.getD k1 (0,.dead),h.getD k3 (0,.dead)with
 |(g,.arr s ver fr es),(g3,.dead)=>if s=1∧fr=false∧k1≠k3∧k1<h.length∧k3<h.length then(match es.getLast? with
  |some (.uslc ns)=>if 0<ns.length∧a2w 1 ns=true then((h.set k1 (g,.arr 1 (ver+1) false (es.dropLast++[.own k3 (g3+1) ns.length 1 0 ns.length]))).set k3 (g3+1,.arr 1 0 false ns))else h
  |_=>h)else h
 |_,_=>h
def a5u:List (Nat×Bool)→l5→l5
 | [],h=>h
 |x::l,h=>a5u l (if 1000≤x.1 then a8c (x.1/1000-1) (x.1%1000) h else h.set x.1 ((h.getD x.1 (0,.dead)).1,a0q h x.2 (h.getD x.1 (0,.dead)).2))
def a8f(k1 k3 i j:Nat)(h:l5):l5:=match h[k1]?,h[k3]? with
 |some (g,.arr s ver fr es),some (g3,.dead)=>if fr=false∧k1≠k3 then(match es[i]? with
  |some e=>(match(l6 e)[j]? with
   |some (.uslc ns)=>if 0<ns.length∧a2w (l6 (ns.headD .uu)).length ns=true then
    (h.set k1 (g,.arr s (ver+2) false (es.set i (M4 e j [.own k3 (g3+1) ns.length (l6 (ns.headD .uu)).length 0 ns.length])))).set k3 (g3+1,.arr (l6 (ns.headD .uu)).length 0 false ns)else h
   |_=>h)
  |none=>h)else h
 |_,_=>h
def a8k(k1 k3 i j:Nat)(h:l5):l5:=match h[k1]?,h[k3]? with
 |some (g,.arr s ver fr es),some (g3,.arr s3 _ _ ns)=>if fr=false∧k1≠k3∧ns.all D4=true then(match es[i]? with
  |some e=>(match(l6 e)[j]? with
   |some (.own k g' gl s' o l)=>if k=k3∧g'=g3∧gl=ns.length∧s'=s3∧o=0∧l=gl then
    (h.set k1 (g,.arr s (ver+1) false (es.set i (M4 e j [.slc (ns.map B3)])))).set k3 (g3,.dead)else h
   |_=>h)
  |none=>h)else h
 |_,_=>h
def ghI(c:Option Nat)(x:PV)(h:l5):Option Nat:=match(match c,x with
 |none,x=>x
 |some f,.agg cs=>cs.getD f .uu
 |some f,.ptr k _ _=>match h[k]? with
  |some (_,.var cs)=>cs.getD f .uu
  |_=>.uu
 |_,_=>.uu)with
 | .int _ n=>some n.toNat
 |_=>none
def b0q(h:l5)(x:PV):Option (PV×l5):=match x with
 | .ptr k g 0=>match h[k]? with
  |some (g',.var cs)=>if g'=g∧(cs.map fun c=>a1N (a0a h c)).all A6=true then some (.fptr (cs.map fun c=>a1N (a0a h c)),h.set k (g,.dead))else none
  |_=>none
 | .nils=>some (.slc [],h)
 |_=>none
def a3g(v:Nat)(c:Option Nat)(k sz:Nat)(vs:List PV)(h:l5):List PV×l5:=
 if sz=0 then(match k with
  |0=>(vs.set v (a0a h (vs.getD v .uu)),h)
  |1=>(match b0q h (vs.getD v .uu)with
   |some (p,h')=>(vs.set v p,h')
   |none=>(vs,h))
  |k+2=>(match ghI c (vs.getD v .uu) h with
   |some i=>(vs,if k%2=0 then a8f (k/2%1000) (k/2000%1000) i (k/2000000) h else a8k (k/2%1000) (k/2000%1000) i (k/2000000) h)
   |none=>(vs,h)))else match h[k]? with
 |some (g,.dead)=>if 0<sz then(match c,vs.getD v .uu with
  |none,.nils=>(vs.set v (.own k (g+1) 0 sz 0 0),h.set k (g+1,.arr sz 0 false []))
  |some j,.ptr k2 g2 0=>match h[k2]? with
   |some (g3,.var cs)=>if g3=g2 then(match cs[j]? with
    |some .nils=>(vs,(h.set k (g+1,.arr sz 0 false [])).set k2 (g3,.var (cs.set j (.own k (g+1) 0 sz 0 0))))
    |_=>(vs,h))else(vs,h)
   |_=>(vs,h)
  |_,_=>(vs,h))else(vs,h)
 |_=>(vs,h)
def H7:C6→C6
 | .seq a b=>.seq (H7 a) (H7 b)
 | .cond c a b=>.cond c (H7 a) (H7 b)
 | .block id b=>.block id (H7 b)
 | .loop b=>.loop (H7 b)
 | .loopS l c b=>.loopS l c (H7 b)
 | .G6 _ b=>H7 b
 | .rfor g ps a b=>.rfor g ps (H7 a) (H7 b)
 |c=>c
def strip:C6→C6
 | .seq a b=>.seq (strip a) (strip b)
 | .cond c a b=>.cond c (strip a) (strip b)
 | .block id b=>.block id (strip b)
 | .loop b=>.loop (strip b)
 | .loopS _ _ b=>.loop (strip b)
 | .G6 _ b=>strip b
 | .G4 _ _ _ _ b=>strip b
 | .rfor g ps a b=>.rfor g ps (H7 a) (H7 b)
 |c=>c
def a5U:List PV→List (Option Nat)→List PV→List PV
 |vs,p::ps,v::l=>a5U (K6 vs p v) ps l
 |vs,_,_=>vs
def a8B:O6→Option O6
 | .normal=>none
 |e=>some e
def unp:Option O6→O6
 |none=>.normal
 |some e=>e
def a9w(K:List PV→l5→Prop):I9
 | .normal,vs,h=>K vs h
 |_,_,_=>False
def G5(FN:N2):C6→I9→List PV→l5→Prop
 | .skip,Q,vs,h=>Q .normal vs h
 | .reg xs,Q,vs,h=>a2a h.length xs=true∧F8 FN xs ⟨[],vs,h⟩ (fun st=>Q .normal st.vars st.heap)
 | .seq a b,Q,vs,h=>G5 FN a (a2m (G5 FN b Q) Q) vs h
 | .cond c a b,Q,vs,h=>match y9 [] vs c with
  | .bool true=>G5 FN a Q vs h
  | .bool false=>G5 FN b Q vs h
  |_=>False
 | .block id b,Q,vs,h=>G5 FN b (xin id Q) vs h
 | .loop b,Q,vs,h=>∃n,a3B (G5 FN b) Q n vs h
 | .loopS live c0 b,Q,vs,h=>∃n,a3B (fun Q vs h=>settled live c0 vs h (G5 FN b Q)) Q n vs h
 | .G6 l b,Q,vs,h=>G5 FN b Q vs (a5u l h)
 | .G4 v c k sz b,Q,vs,h=>G5 FN b Q (a3g v c k sz vs h).1 (a3g v c k sz vs h).2
 | .rfor g ps a b,Q,vs,h=>FN.it (y9 [] vs g) (fun args h1 k=>args.length=ps.length∧G5 FN a (a9w fun vs h2=>G5 FN b (fun e _ h3=>k (a8B e) h3) vs h2) (a5U vs ps args) h1) h fun p h'=>Q (unp p) vs h'
 | .exit id,Q,vs,h=>Q (.exit id) vs h
 | .ret,Q,vs,h=>Q .ret vs h
def rvC(lk:D6):PV→PV
 | .own k g gl s o l=>match lk k with
  |(g',.arr s' _ fr es)=>if g'=g∧es.length=gl∧s'=s∧o=0∧l≤gl∧es.all D4=true then(if l=gl then(if fr then .slc (es.map B3)else .uslc es)else if fr then .uu else .uslc (es.take l))else .uu
  |_=>.uu
 | .ne=>.slc []
 | .nils=>.nils
 | .bool b=>.bool b
 | .int k n=>.int k n
 | .str t=>.str t
 | .lit v=>.lit v
 | .slc es=>.slc es
 | .mapv k g=>match lk k with
  |(g',.mp true ks vs)=>if g'=g∧vs.all (fun c=>A6 c||fn0 c)=true then .J9 ks vs else .uu
  |_=>.uu
 | .J9 ks vs=>.J9 ks vs
 | .fptr cs=>.fptr cs
 |_=>.uu
def rvE(lk:D6):PV→PV
 | .agg cs=>.agg (cs.map (rvC lk))
 |c=>rvC lk c
def rvV(lk:D6):PV→PV
 | .tup vs=>.tup (vs.map (rvE lk))
 |c=>rvE lk c
def a8a(p:PV):List Nat:=((a0m p).flatMap l6).filterMap fun c=>match c with
 | .own k _ _ _ _ _=>some k
 |_=>none
def a3J(szs:List Nat):Nat→List PV→Bool
 |_,[]=>true
 |q,.own _ _ _ s _ _::cs=>szs.getD q 0==s&&a3J szs (q+1) cs
 |q,_::cs=>a3J szs (q+1) cs
def a7R(lk:D6)(vars:List PV):Nat×Option (Bool×Nat)→Option PV
 |(k,none)=>some (vars.getD k .uu)
 |(k,some (g,s))=>if g then a5R lk s (vars.getD k .uu)else a0j lk g s (vars.getD k .uu)
def a2I(lk:D6)(vars:List PV):List (Nat×Option (Bool×Nat))→Option (List PV)
 | []=>some []
 |r::rs=>match a7R lk vars r,a2I lk vars rs with
  |some v,some vs=>some (v::vs)
  |_,_=>none
def a0e:List PV→PV
 | [v]=>v
 |vs=>.tup vs
def b7n(rs:List (Nat×Option (Bool×Nat)))(szs:List Nat)(r:PV):I9:=fun e vs h=>
 (match e with| .exit _=>False|_=>True)∧∃l,a2I (l8 h []) vs rs=some l∧a3j (a8a (a0e l))=true∧a3J szs 0 ((a0m (a0e l)).flatMap l6)=true∧rvV (l8 h []) (a0e l)=r
open Go.RowKit
section
variable{v:Value}{n:Nat}{cs:List PV}
def isD:Obj→Bool
 | .cells .. | .map .. =>true
 |_=>false
structure Bl(B:Nat)(w w':World):Prop where
 bl:Below B w w'
 same:∀(k:Nat) (o:Obj),w.heap[k]?=some o→isD o=false→w'.heap[k]?=some o
section
variable{B:Nat}{a b c w w':World}
theorem Bl.refl(B:Nat)(w:World):Bl B w w:=⟨Below.refl _ _,fun _ _ h _=>h⟩
theorem Bl.trans(h:Bl B a b)(k:Bl B b c):Bl B a c:=⟨h.bl.trans k.bl,fun i o h1 h2=>k.same i o (h.same i o h1 h2) h2⟩
theorem Bl.mono{B':Nat}(h:Bl B a b)(hB:B'≤B):Bl B' a b:=⟨h.bl.mono hB,h.same⟩
theorem Bl.size(h:Bl B a b):a.heap.size≤b.heap.size:=h.bl.size
theorem Bl.block(h:Bl B a b):∀k,k<B→b.heap[k]?=a.heap[k]?:=h.bl.block
theorem Bl.drew(h:Bl B a w):Bl B a w.drew:=h.trans ⟨(Below.refl B w).drew,fun _ _ h _=>h⟩
theorem Bl.alloc(h:Bl B a w)(hB:B≤w.heap.size)(o:Obj):Bl B a (w.alloc o):=
 h.trans ⟨(Below.refl B w).alloc hB o,fun k x h1 _=>(Below.heap_alloc _ _ _ (a2A.1 h1).1).trans h1⟩
end
def V6(w:World)(b:Nat):Prop:=∃o,w.heap[b]?=some o∧isD o=true
theorem V6.lt{w:World}{b:Nat}(h:V6 w b):b<w.heap.size:=by obtain⟨_,h,_⟩:=h;exact(a2A.1 h).1
theorem V6.eq{w w':World}{b:Nat}(h:V6 w b)(e:w'.heap[b]?=w.heap[b]?):V6 w' b:=by obtain⟨o,h,d⟩:=h;exact⟨o,e.trans h,d⟩
theorem V6.of{w:World}{b:Nat}{us:Array Value}{T:TypeId}{x:Nat×Nat}(h:w.heap[b]?=some (.cells us T x)):V6 w b:=⟨_,h,rfl⟩
abbrev Key:=Nat×Option (Nat×Nat)
abbrev root(k:Nat):Key:=(k,none)
abbrev nest(k i j:Nat):Key:=(k,some (i,j))
structure Gh where
 β:Key→Nat
 R:Key→Prop
 γ:Key→Nat
 σ:Key→Nat
 Z:Nat→Prop
def I6(R:Value→PV→Prop)(vs:Array Value)(cs:List PV):Prop:=vs.size=cs.length∧∀(i:Nat) c,cs[i]?=some c→∃u,vs[i]?=some u∧R u c
theorem I6.mono{R R':Value→PV→Prop}{vs:Array Value}(h:I6 R vs cs)(hr:∀v c,R v c→R' v c):I6 R' vs cs:=
 ⟨h.1,fun i c hc=>let⟨u,h1,h2⟩:=h.2 i c hc;⟨u,h1,hr _ _ h2⟩⟩
def a7W:Value→Bool
 | .pointer none| .nilFunc| .nilIface| .map none=>true
 |_=>false
def D:Nat:=6
def a0M:PV→Option Value
 | .bool b=>some (.bool b)
 | .int k n=>some (.int k n)
 | .str s=>some (.string s)
 |_=>none
def U1:List PV→Option (List Value)
 | []=>some []
 |c::cs=>match a0M c,U1 cs with
  |some v,some l=>some (v::l)
  |_,_=>none
def a1o:PV→Option Value
 | .agg cs=>(U1 cs).map fun l=>.agg l.toArray
 |c=>a0M c
def a1K(es:Array MapEntry)(ks:List PV):Prop:=es.size=ks.length∧∀(i:Nat) x,ks[i]?=some x→∃e,es[i]?=some e∧a1o x=some e.key
def K0(Z:Nat→Prop)(w:World):Nat→Value→PV→Prop
 |_,_,.uu=>True
 |_,v,.bool b=>v=.bool b
 |_,v,.int k n=>v=.int k n
 |_,v,.str s=>v=.string s
 |_,v,.lit u=>v=u∧a7W u=true
 |n+1,v,.slc es=>∃a c sz,v=.slice a es.length c∧es.length≤c∧c≤maxLen∧(a=none→c=0)∧
  ∀(i:Nat) e,es[i]?=some e→(l6 e).length=sz∧∃b o,a=some ⟨b,o,none⟩∧Z b∧∀(j:Nat) c,(l6 e)[j]?=some c→one c=true∧∃u,w.cell? ⟨b,o+(i*sz+j),none⟩=some u∧K0 Z w n u c
 |n+1,v,.agg cs=>∃vs,v=.agg vs∧I6 (K0 Z w n) vs cs
 |_,v,.fn f [] []=>v=.func f #[] #[]
 |n+1,v,.J9 ks cs=>∃b es q,v=.map (some b)∧Z b∧w.heap[b]?=some (.map es q)∧a1K es ks∧ks.length=cs.length∧∀(i:Nat) c,cs[i]?=some c→∃e,es[i]?=some e∧K0 Z w n e.val c
 |n+1,v,.fptr cs=>∃b o,v=.pointer (some ⟨b,o,none⟩)∧Z b∧∀(j:Nat) c,cs[j]?=some c→one c=true∧∃u,w.cell? ⟨b,o+j,none⟩=some u∧K0 Z w n u c
 |_,_,_=>False
theorem K0.mono{Z Z':Nat→Prop}{w w':World}(hz:∀b,Z b→Z' b)(hw:∀b,Z b→w'.heap[b]?=w.heap[b]?):∀{n:Nat} {v:Value} {p:PV},K0 Z w n v p→K0 Z' w' n v p:=by
 intro n
 induction n with
 |zero=>
  intro v p h;cases p
  case fn f a c=>cases a<;>cases c<;>exact h
  all_goals first|exact h|exact(show False from h).elim
 |succ n ih=>
  intro v p h;cases p
  case fn f a c=>cases a<;>cases c<;>exact h
  case J9 ks cs=>
   obtain⟨b,es,q,h1,h2,h3,h4,h5,h6⟩:=h;exact⟨b,es,q,h1,hz b h2,by rw[hw b h2];exact h3,h4,h5,fun i c hc=>by obtain⟨e,h7,h8⟩:=h6 i c hc;exact⟨e,h7,ih h8⟩⟩
  case fptr cs=>
   obtain⟨b,o,h1,h2,h3⟩:=h;refine⟨b,o,h1,hz b h2,fun j c hc=>?_⟩;obtain⟨h0,u,h4,h5⟩:=h3 j c hc;exact⟨h0,u,by rw[World.cell?_of_block (w:=w) (a:=⟨b,_,none⟩) (hw b h2)];exact h4,ih h5⟩
  all_goals first|exact h|skip
  case slc es=>
   obtain⟨a,c,sz,h1,h2,h3,h4,h5⟩:=h;refine⟨a,c,sz,h1,h2,h3,h4,fun i e he=>?_⟩;obtain⟨h6,b,o,h7,h8,h9⟩:=h5 i e he;refine⟨h6,b,o,h7,hz b h8,fun j c hc=>?_⟩;obtain⟨h0,u,h10,h11⟩:=h9 j c hc;exact⟨h0,u,by rw[World.cell?_of_block (w:=w) (a:=⟨b,_,none⟩) (hw b h8)];exact h10,ih h11⟩
  case agg cs=>
   obtain⟨vs,h1,h2⟩:=h;exact⟨vs,h1,h2.mono fun _ _ x=>ih x⟩
theorem K0.up{Z:Nat→Prop}{w:World}:∀{n:Nat} {v:Value} {p:PV},K0 Z w n v p→K0 Z w (n+1) v p:=by
 intro n
 induction n with
 |zero=>
  intro v p h;cases p
  case fn f a c=>cases a<;>cases c<;>exact h
  all_goals first|exact h|exact(show False from h).elim
 |succ n ih=>
  intro v p h;cases p
  case fn f a c=>cases a<;>cases c<;>exact h
  case J9 ks cs=>
   obtain⟨b,es,q,h1,h2,h3,h4,h5,h6⟩:=h;exact⟨b,es,q,h1,h2,h3,h4,h5,fun i c hc=>by obtain⟨e,h7,h8⟩:=h6 i c hc;exact⟨e,h7,ih h8⟩⟩
  case fptr cs=>
   obtain⟨b,o,h1,h2,h3⟩:=h;exact⟨b,o,h1,h2,fun j c hc=>by obtain⟨h0,u,h4,h5⟩:=h3 j c hc;exact⟨h0,u,h4,ih h5⟩⟩
  all_goals first|exact h|skip
  case slc es=>
   obtain⟨a,c,sz,h1,h2,h3,h4,h5⟩:=h;refine⟨a,c,sz,h1,h2,h3,h4,fun i e he=>?_⟩;obtain⟨h6,b,o,h7,h8,h9⟩:=h5 i e he;refine⟨h6,b,o,h7,h8,fun j c hc=>?_⟩;obtain⟨h0,u,h10,h11⟩:=h9 j c hc;exact⟨h0,u,h10,ih h11⟩
  case agg cs=>
   obtain⟨vs,h1,h2⟩:=h;exact⟨vs,h1,h2.mono fun _ _ x=>ih x⟩
theorem K0.le{Z:Nat→Prop}{w:World}{m:Nat}{p:PV}(h:n≤m)(hp:K0 Z w n v p):K0 Z w m v p:=by
 induction h with
 |refl=>exact hp
 |step _ ih=>exact ih.up
def PR(Z:Nat→Prop)(w:World)(v:Value)(p:PV):Prop:=∃n,K0 Z w n v p
theorem PR.mono{Z Z':Nat→Prop}{w w':World}(hz:∀b,Z b→Z' b)(hw:∀b,Z b→w'.heap[b]?=w.heap[b]?){v:Value}{p:PV}(h:PR Z w v p):PR Z' w' v p:=
 let⟨n,hn⟩:=h;⟨n,hn.mono hz hw⟩
theorem a9a{Q:Nat→Nat→Prop}(hup:∀i n m,n≤m→Q i n→Q i m):∀(k:Nat),(∀i,i<k→∃n,Q i n)→∃N,∀i,i<k→Q i N
 |0,_=>⟨0,fun i hi=>i9⟩
 |k+1,h=>by
  obtain⟨N,hN⟩:=a9a hup k fun i hi=>h i i9;obtain⟨n,hn⟩:=h k i9;refine⟨max N n,fun i hi=>?_⟩;by_cases hik:i<k
  . grind
  . grind
theorem PR.U2{Z:Nat→Prop}{w:World}{es:List PV}:PR Z w v (.slc es)↔∃a c sz,v=.slice a es.length c∧es.length≤c∧c≤maxLen∧(a=none→c=0)∧
      ∀(i:Nat) e,es[i]?=some e→(l6 e).length=sz∧∃b o,a=some ⟨b,o,none⟩∧Z b∧∀(j:Nat) c,(l6 e)[j]?=some c→one c=true∧∃u,w.cell? ⟨b,o+(i*sz+j),none⟩=some u∧PR Z w u c:=by
 constructor
 . rintro⟨n,hp⟩;cases n with
   |zero=>unfold K0 at hp;exact hp.elim
   |succ n=>
    unfold K0 at hp;obtain⟨a,c,sz,h1,h2,h3,h4,h5⟩:=hp;refine⟨a,c,sz,h1,h2,h3,h4,fun i e he=>?_⟩;obtain⟨h6,b,o,h7,h8,h9⟩:=h5 i e he;refine⟨h6,b,o,h7,h8,fun j c hc=>?_⟩;obtain⟨h10,u,h11,h12⟩:=h9 j c hc;exact⟨h10,u,h11,n,h12⟩
 . rintro⟨a,c,sz,h1,h2,h3,h4,h5⟩;have hall:∃N,∀i,i<es.length→∀e,es[i]?=some e→∀(j:Nat) c,(l6 e)[j]?=some c→∀b o,a=some ⟨b,o,none⟩→∃u,w.cell? ⟨b,o+(i*sz+j),none⟩=some u∧K0 Z w N u c:=by
    refine a9a (Q:=fun i N=>∀e,es[i]?=some e→∀(j:Nat) c,(l6 e)[j]?=some c→∀b o,a=some ⟨b,o,none⟩→∃u,w.cell? ⟨b,o+(i*sz+j),none⟩=some u∧K0 Z w N u c) ?_ _ ?_
    . intro i n m hnm hq e he j c hc b o ha;obtain⟨u,g1,g2⟩:=hq e he j c hc b o ha;exact⟨u,g1,g2.le hnm⟩
    . intro i hi;obtain⟨e,he⟩:∃e,es[i]?=some e:=⟨es[i],l9 hi⟩
      obtain⟨h6,b,o,h7,h8,h9⟩:=h5 i e he;obtain⟨N,hN⟩:=a9a (Q:=fun j N=>∀c,(l6 e)[j]?=some c→∃u,w.cell? ⟨b,o+(i*sz+j),none⟩=some u∧K0 Z w N u c) (fun j n m hnm hq c hc=>by
       obtain⟨u,g1,g2⟩:=hq c hc;exact⟨u,g1,g2.le hnm⟩) (l6 e).length (fun j hj=>by
       obtain⟨g0,u,g1,n,g2⟩:=h9 j _ (l9 hj);exact⟨n,fun c hc=>by rw[l9 hj]at hc;cases hc;exact⟨u,g1,g2⟩⟩)
      refine⟨N,fun e' he' j c hc b' o' ha=>?_⟩;rw[he]at he';cases he';rw[h7]at ha;cases ha;exact hN j (B4.1 hc).1 c hc
   obtain⟨N,hN⟩:=hall;refine⟨N+1,?_⟩;unfold K0;refine⟨a,c,sz,h1,h2,h3,h4,fun i e he=>?_⟩;obtain⟨h6,b,o,h7,h8,h9⟩:=h5 i e he;refine⟨h6,b,o,h7,h8,fun j c hc=>⟨(h9 j c hc).1,hN i (B4.1 he).1 e he j c hc b o h7⟩⟩
theorem PR.J9{Z:Nat→Prop}{w:World}{ks:List PV}(h:PR Z w v (.J9 ks cs)):∃b es q,v=.map (some b)∧Z b∧w.heap[b]?=some (.map es q)∧a1K es ks∧ks.length=cs.length∧∀(i:Nat) c,cs[i]?=some c→∃e,es[i]?=some e∧PR Z w e.val c:=by
 obtain⟨n,hp⟩:=h;cases n with
 |zero=>unfold K0 at hp;exact hp.elim
 |succ n=>
  unfold K0 at hp;obtain⟨b,es,q,h1,h2,h3,h4,h5,h6⟩:=hp;exact⟨b,es,q,h1,h2,h3,h4,h5,fun i c hc=>by obtain⟨e,h7,h8⟩:=h6 i c hc;exact⟨e,h7,n,h8⟩⟩
theorem PR.a3a{Z:Nat→Prop}{w:World}:PR Z w v (.fptr cs)↔∃b o,v=.pointer (some ⟨b,o,none⟩)∧Z b∧∀(j:Nat) c,cs[j]?=some c→one c=true∧∃u,w.cell? ⟨b,o+j,none⟩=some u∧PR Z w u c:=by
 constructor
 . rintro⟨n,hp⟩;cases n with
   |zero=>unfold K0 at hp;exact hp.elim
   |succ n=>
    unfold K0 at hp;obtain⟨b,o,h1,h2,h3⟩:=hp;exact⟨b,o,h1,h2,fun j c hc=>by obtain⟨h0,u,h4,h5⟩:=h3 j c hc;exact⟨h0,u,h4,n,h5⟩⟩
 . rintro⟨b,o,h1,h2,h3⟩;obtain⟨N,hN⟩:=a9a (Q:=fun j N=>∀c,cs[j]?=some c→∃u,w.cell? ⟨b,o+j,none⟩=some u∧K0 Z w N u c) (fun j n m hnm hq c hc=>by
    obtain⟨u,g1,g2⟩:=hq c hc;exact⟨u,g1,g2.le hnm⟩) cs.length (fun j hj=>by
    obtain⟨g0,u,g1,n,g2⟩:=h3 j _ (l9 hj);exact⟨n,fun c hc=>by rw[l9 hj]at hc;cases hc;exact⟨u,g1,g2⟩⟩)
   refine⟨N+1,?_⟩;unfold K0
   grind
def cellAt(es:List PV)(i j:Nat):Option PV:=(es[i]?).bind fun e=>(l6 e)[j]?
def a0I(G:Gh)(h:l5)(w:World)(v:Value):PV→Prop
 | .own k g gl s o l=>∃a c,v=.slice a l c∧l≤c∧c≤maxLen∧((a=none∧c=0)∨∃b f,a=some ⟨b,f,none⟩)∧∃gn ob,h[k]?=some (gn,ob)∧g≤gn∧
  (gn=g→∀sz ver fr es,ob=.arr sz ver fr es→gl≤es.length∧(es.length=gl→o+l≤gl∧
   (G.R (root k)→∃f,a=some ⟨G.β (root k),f,none⟩∧(c=0∨(sz=s→f=o*s))∧gl≤o+c∧o+c≤G.γ (root k))∧(¬G.R (root k)→a=none∧o=0)))
 | .nils=>v=.slice none 0 0
 | .bool b=>v=.bool b
 | .int k n=>v=.int k n
 | .str s=>v=.string s
 | .lit u=>v=u∧a7W u=true
 | .slc es=>PR G.Z w v (.slc es)
 | .J9 ks vs=>PR G.Z w v (.J9 ks vs)
 | .fptr cs=>PR G.Z w v (.fptr cs)
 |_=>False
def j8(G:Gh)(h:l5)(w:World):Nat→Value→PV→Prop
 |_,v,.lst es=>∃a c,v=.slice (some a) es.length c∧es.length≤c∧c≤maxLen∧∀(i:Nat) e,es[i]?=some e→∃b o u,a=⟨b,o,none⟩∧G.Z b∧w.cell? ⟨b,o+i,none⟩=some u∧a0I G h w u e
 |_,v,.any=>v.oneCell'=true∧v.cells= #[v]
 |_,_,.uu=>True
 |_,v,.bool b=>v=.bool b
 |_,v,.int k n=>v=.int k n
 |_,v,.str s=>v=.string s
 |_,v,.lit u=>v=u∧a7W u=true
 |_,v,.nils=>v=.slice none 0 0
 |_,v,.ne=>∃b o,v=.slice (some ⟨b,o,none⟩) 0 0
 |_,v,.slc es=>PR G.Z w v (.slc es)
 |_,v,.J9 ks vs=>PR G.Z w v (.J9 ks vs)
 |_,v,.mapv k g=>∃b,v=.map (some b)∧∃gn ob,h[k]?=some (gn,ob)∧g≤gn∧(gn=g→∀fr ks vs,ob=.mp fr ks vs→b=G.β (root k))
 |_,v,.own k g gl s o l=>∃a c,v=.slice a l c∧l≤c∧c≤maxLen∧((a=none∧c=0)∨∃b f,a=some ⟨b,f,none⟩)∧∃gn ob,h[k]?=some (gn,ob)∧g≤gn∧
  (gn=g→∀sz ver fr es,ob=.arr sz ver fr es→gl≤es.length∧(es.length=gl→o+l≤gl∧
   (G.R (root k)→∃f,a=some ⟨G.β (root k),f,none⟩∧(c=0∨(sz=s→f=o*s))∧gl≤o+c∧o+c≤G.γ (root k))∧(¬G.R (root k)→a=none∧o=0)))
 |_,v,.nown k g ver i j o l=>∃a c,v=.slice a l c∧l≤c∧c≤maxLen∧((a=none∧c=0)∨∃b f,a=some ⟨b,f,none⟩)∧∃gn ob,h[k]?=some (gn,ob)∧g≤gn∧
  (gn=g→∀sz vr fr es,ob=.arr sz vr fr es→ver≤vr∧(vr=ver→∃ns,cellAt es i j=some (.uslc ns)∧o+l≤ns.length∧
   (G.R (nest k i j)→∃f,a=some ⟨G.β (nest k i j),f,none⟩∧(c=0∨f=o*G.σ (nest k i j)))∧(¬G.R (nest k i j)→a=none∧o=0)))
 |_,v,.ptr k g o=>∃b,v=.pointer (some ⟨b,o,none⟩)∧∃gn ob,h[k]?=some (gn,ob)∧g≤gn∧(gn=g→∀cs,ob=.var cs→b=G.β (root k))
 |_,v,.vsl k g o s l=>∃b f c,v=.slice (some ⟨b,f,none⟩) l c∧l≤c∧c≤maxLen∧(l=0∨f=o)∧∃gn ob,h[k]?=some (gn,ob)∧g≤gn∧(gn=g→∀cs,ob=.var cs→b=G.β (root k))
 |_,v,.eptr k g gl s i j=>∃b f,v=.pointer (some ⟨b,f,none⟩)∧∃gn ob,h[k]?=some (gn,ob)∧g≤gn∧
  (gn=g→∀sz ver fr es,ob=.arr sz ver fr es→gl≤es.length∧(es.length=gl→b=G.β (root k)∧(sz=s→f=i*s+j)∧i<gl))
 |_,v,.nptr k g ver s i j m l=>∃b f,v=.pointer (some ⟨b,f,none⟩)∧∃gn ob,h[k]?=some (gn,ob)∧g≤gn∧
  (gn=g→∀sz vr fr es,ob=.arr sz vr fr es→ver≤vr∧(vr=ver→∃ns,cellAt es i j=some (.uslc ns)∧b=G.β (nest k i j)∧(G.σ (nest k i j)=s→f=m*s+l)∧m<ns.length))
 |_,v,.fptr cs=>PR G.Z w v (.fptr cs)
 |n+1,v,.agg cs=>∃vs,v=.agg vs∧I6 (j8 G h w n) vs cs
 |n+1,v,.tup cs=>∃vs,v=.tuple vs∧I6 (j8 G h w n) vs cs
 |n+1,v,.fn f first cap=>∃vs us,v=.func f vs us∧I6 (j8 G h w n) vs first∧I6 (j8 G h w n) us cap
 |_,_,_=>False
def N7(G:Gh)(w:World)(key:Key)(u:Value)(ns:List PV):Prop:=
 (G.R key→∃us T f c,u=.slice (some ⟨G.β key,f,none⟩) ns.length c∧(c=0∨f=0)∧ns.length≤c∧c≤G.γ key∧G.γ key≤maxLen∧w.heap[G.β key]?=some (.cells us T (0,0))∧us.size=G.γ key*G.σ key∧0<G.σ key∧
  ∀(i:Nat) e,ns[i]?=some e→(l6 e).length=G.σ key∧∀(j:Nat) c,(l6 e)[j]?=some c→one c=true∧∃v,us[i*G.σ key+j]?=some v∧PR G.Z w v c)∧
 (¬G.R key→u=.slice none 0 0∧ns=[])
def F9(G:Gh)(h:l5)(w:World)(k i j:Nat)(u:Value):PV→Prop
 | .uslc ns=>N7 G w (nest k i j) u ns
 |c=>one c=true∧j8 G h w D u c
def a0b(G:Gh)(h:l5)(w:World)(k i:Nat)(u:Value):PV→Prop
 | .uslc ns=>N7 G w (nest k i 0) u ns
 |c=>j8 G h w D u c
def E5(G:Gh)(h:l5)(w:World)(k:Nat):Ob→Prop
 | .dead=>True
 | .var cs=>G.R (root k)∧∃us T,w.heap[G.β (root k)]?=some (.cells us T (0,0))∧I6 (fun v c=>one c=true∧j8 G h w D v c) us cs
 | .arr sz _ _ es=>0<sz∧es.length≤G.γ (root k)∧G.γ (root k)≤maxLen∧
  (G.R (root k)→∃us T,w.heap[G.β (root k)]?=some (.cells us T (0,0))∧us.size=G.γ (root k)*sz∧
   ∀(i:Nat) e,es[i]?=some e→(l6 e).length=sz∧∀(j:Nat) c,(l6 e)[j]?=some c→∃u,us[i*sz+j]?=some u∧F9 G h w k i j u c)∧
  (¬G.R (root k)→es=[])
 | .mp _ ks vs=>G.R (root k)∧ks.length=vs.length∧∃es q,w.heap[G.β (root k)]?=some (.map es q)∧a1K es ks∧∀(i:Nat) c,vs[i]?=some c→∃e,es[i]?=some e∧a0b G h w k i e.val c
def a7x:Ob→Bool
 | .var _=>true
 | .arr _ _ fr _=>!fr
 | .mp fr _ _=>!fr
 | .dead=>false
def b2u:Ob→Bool
 | .arr _ _ fr _=>fr
 | .mp fr _ _=>fr
 |_=>false
structure p7(B:Nat)(Z0:Nat→Prop)(G:Gh)(h:l5)(w:World):Prop where
 base:B≤w.heap.size
 zo:∀b,G.Z b→Z0 b∨B≤b
 zb:∀b,G.Z b→V6 w b
 lv:∀key,G.R key→B≤G.β key∧V6 w (G.β key)
 nz:∀k g o,h[k]?=some (g,o)→a7x o=true→∀y,G.R (k,y)→¬G.Z (G.β (k,y))
 fz:∀k g o,h[k]?=some (g,o)→b2u o=true→∀y,G.R (k,y)→G.Z (G.β (k,y))
 inj:∀key key',G.R key→G.R key'→G.β key=G.β key'→key=key'
 ob:∀k g o,h[k]?=some (g,o)→E5 G h w k o
def B8(G G':Gh)(key:Key):Prop:=G'.β key=G.β key∧(G'.R key↔G.R key)∧G'.γ key=G.γ key∧G'.σ key=G.σ key
theorem B8.refl(G:Gh)(key:Key):B8 G G key:=⟨rfl,Iff.rfl,rfl,rfl⟩
def K5(G G':Gh)(k:Nat)(ob ob':Ob):Prop:=
 (∀sz ver' fr' es',ob'=.arr sz ver' fr' es'→∃ver fr es,ob=.arr sz ver fr es∧es.length≤es'.length∧ver≤ver'∧(es'.length=es.length→B8 G G' (root k))∧
  (ver'=ver→∀i j ns,cellAt es i j=some (.uslc ns)→∃ns',cellAt es' i j=some (.uslc ns')∧ns.length=ns'.length∧B8 G G' (nest k i j)))∧
 (∀cs',ob'=.var cs'→∃cs,ob=.var cs∧B8 G G' (root k))∧
 (∀fr' ks' vs',ob'=.mp fr' ks' vs'→∃fr ks vs,ob=.mp fr ks vs∧B8 G G' (root k))
structure Ext(G:Gh)(h:l5)(w:World)(G':Gh)(h':l5)(w':World):Prop where
 zz:∀b,G.Z b→G'.Z b
 zw:∀b,G.Z b→w'.heap[b]?=w.heap[b]?
 kp:∀k gn ob,h[k]?=some (gn,ob)→∃gn' ob',h'[k]?=some (gn',ob')∧gn≤gn'∧(gn'=gn→K5 G G' k ob ob')
structure X0(m:Nat)(w w':World):Prop where
 os:w'.os=w.os
 tape:w'.tape=w.tape
 output:w'.output=w.output
 size:w'.heap.size=w.heap.size
 cells:∀b,V6 w b→w'.heap[b]?=w.heap[b]?
 low:∀b,b<m→w'.heap[b]?=w.heap[b]?
theorem X0.refl(m:Nat)(w:World):X0 m w w:=⟨rfl,rfl,rfl,rfl,fun _ _=>rfl,fun _ _=>rfl⟩
theorem X0.trans{m:Nat}{a b c:World}(h:X0 m a b)(k:X0 m b c):X0 m a c:=
 ⟨k.os.trans h.os,k.tape.trans h.tape,k.output.trans h.output,k.size.trans h.size,fun b hb=>(k.cells b (hb.eq (h.cells b hb))).trans (h.cells b hb),fun b hb=>(k.low b hb).trans (h.low b hb)⟩
theorem X0.put{m D:Nat}{w:World}{o o':Obj}(h:w.heap[D]?=some o)(ho:isD o=false)(hm:m≤D):X0 m w (w.putObj D o'):=
 ⟨rfl,rfl,rfl,k7,fun b hb=>b4E fun e=>(by subst e;obtain⟨x,hc,hd⟩:=hb;rw[h]at hc;cases hc;rw[ho]at hd;cases hd),fun b hb=>b4E i9⟩
structure M3(B:Nat)where
 m:Nat
 psi:PV→Gh→l5→World→Prop
 ms:∀{g:PV} {G:Gh} {h:l5} {w:World},psi g G h w→m≤w.heap.size
 step:∀{g:PV} {G:Gh} {h:l5} {w:World} {G':Gh} {h':l5} {w':World},psi g G h w→Ext G h w G' h' w'→Bl B w w'→psi g G' h' w'
 shut:∀{Z0:Nat→Prop} {g:PV} {G:Gh} {h:l5} {w w':World},p7 B Z0 G h w→psi g G h w→X0 m w w'→psi g G h w'
theorem Bl.shut{B:Nat}{w0 w w':World}(hB:B≤w0.heap.size)(h:Bl B w0 w)(s:X0 w0.heap.size w w'):Bl B w0 w':=
 ⟨⟨s.os.trans h.bl.os,s.tape.trans h.bl.tape,s.output.trans h.bl.output,by rw[s.size];exact h.size,fun k hk=>(s.low k i9).trans (h.block k hk)⟩,
  fun k o h1 h2=>(s.low k (a2A.1 h1).1).trans (h.same k o h1 h2)⟩
def M3.plain(w0:World):M3 w0.heap.size:=⟨w0.heap.size,fun _ _ _ w=>Bl w0.heap.size w0 w,fun h=>h.size,fun h _ b=>h.trans b,fun _ h s=>h.shut (m0 _) s⟩
def a0k(m:Nat)(ds:List Deferred)(w:World):Prop:=∃Ds:List Nat,Ds.Nodup∧ds=Ds.map (fun D=>{target:=.collected D,args:= #[]})∧∀D∈Ds,m≤D∧w.heap[D]?=some (.deferred (some []))
theorem a0k.nil{m:Nat}{w:World}:a0k m [] w:=⟨[],List.nodup_nil,rfl,fun D hD=>by cases hD⟩
theorem a0k.step{m B:Nat}{ds:List Deferred}{w w':World}(h:a0k m ds w)(b:Bl B w w'):a0k m ds w':=by obtain⟨Ds,h1,h2,h3⟩:=h;exact⟨Ds,h1,h2,fun D hD=>⟨(h3 D hD).1,b.same D _ (h3 D hD).2 rfl⟩⟩
section
variable{B:Nat}{Z0:Nat→Prop}{G G' G'':Gh}{h h' h'':l5}{w w' w'':World}
theorem B8.trans{key:Key}(a:B8 G G' key)(b:B8 G' G'' key):B8 G G'' key:=
 ⟨b.1.trans a.1,b.2.1.trans a.2.1,b.2.2.1.trans a.2.2.1,b.2.2.2.trans a.2.2.2⟩
theorem K5.refl(k:Nat)(ob:Ob)(hs:B8 G G' (root k))(hn:∀i j,B8 G G' (nest k i j)):K5 G G' k ob ob:=
 ⟨fun sz ver fr es e=>⟨ver,fr,es,e,m0 _,m0 _,fun _=>hs,fun _ i j ns hc=>⟨ns,hc,rfl,hn i j⟩⟩,fun cs e=>⟨cs,e,hs⟩,fun fr ks vs e=>⟨fr,ks,vs,e,hs⟩⟩
theorem K5.dead(k:Nat)(ob:Ob):K5 G G' k ob .dead:=⟨fun _ _ _ _ e=>by simp at e,fun _ e=>by simp at e,fun _ _ _ e=>by simp at e⟩
theorem K5.arr{k sz ver:Nat}{fr:Bool}{es:List PV}{ob:Ob}(h:∀sz' ver' fr' es',Ob.arr sz ver fr es=.arr sz' ver' fr' es'→∃v0 f0 e0,ob=.arr sz' v0 f0 e0∧e0.length≤es'.length∧v0≤ver'∧(es'.length=e0.length→B8 G G' (root k))∧
 (ver'=v0→∀i j ns,cellAt e0 i j=some (.uslc ns)→∃ns',cellAt es' i j=some (.uslc ns')∧ns.length=ns'.length∧B8 G G' (nest k i j))):K5 G G' k ob (.arr sz ver fr es):=⟨h,fun _ e=>by simp at e,fun _ _ _ e=>by simp at e⟩
theorem K5.var{k:Nat}{cs:List PV}{ob:Ob}(h:∃c0,ob=.var c0∧B8 G G' (root k)):K5 G G' k ob (.var cs):=⟨fun _ _ _ _ e=>by simp at e,fun _ _=>h,fun _ _ _ e=>by simp at e⟩
theorem Ext.refl:Ext G h w G h w:=⟨fun _ x=>x,fun _ _=>rfl,fun k gn ob e=>⟨gn,ob,e,m0 _,fun _=>K5.refl k ob (B8.refl _ _) fun _ _=>B8.refl _ _⟩⟩
theorem K5.trans{k:Nat}{a b c:Ob}(x:K5 G G' k a b)(y:K5 G' G'' k b c):K5 G G'' k a c:=by
 refine⟨fun sz ver fr es e=>?_,fun cs e=>?_,fun fr ks vs e=>?_⟩
 . obtain⟨ver1,fr1,es1,e1,l1,v1,s1,n1⟩:=y.1 sz ver fr es e;obtain⟨ver0,fr0,es0,e0,l0,v0,s0,n0⟩:=x.1 sz ver1 fr1 es1 e1;refine⟨ver0,fr0,es0,e0,i9,i9,fun hl=>(s0 i9).trans (s1 i9),fun hv i j ns hc=>?_⟩;obtain⟨ns1,c1,l2,k1⟩:=n0 i9 i j ns hc;obtain⟨ns0,c0,l3,k0⟩:=n1 i9 i j ns1 c1;exact⟨ns0,c0,i9,k1.trans k0⟩
 . obtain⟨cs1,e1,s1⟩:=y.2.1 cs e;obtain⟨cs0,e0,s0⟩:=x.2.1 cs1 e1;exact⟨cs0,e0,s0.trans s1⟩
 . obtain⟨f1,k1,v1,e1,s1⟩:=y.2.2 fr ks vs e;obtain⟨f0,k0,v0,e0,s0⟩:=x.2.2 f1 k1 v1 e1;exact⟨f0,k0,v0,e0,s0.trans s1⟩
theorem Ext.trans(x:Ext G h w G' h' w')(y:Ext G' h' w' G'' h'' w''):Ext G h w G'' h'' w'':=by refine⟨fun b hb=>y.zz b (x.zz b hb),fun b hb=>(y.zw b (x.zz b hb)).trans (x.zw b hb),fun k gn ob e=>?_⟩;obtain⟨g1,o1,e1,l1,k1⟩:=x.kp k gn ob e;obtain⟨g2,o2,e2,l2,k2⟩:=y.kp k g1 o1 e1;exact⟨g2,o2,e2,i9,fun hg=>(k1 i9).trans (k2 i9)⟩
theorem c9e(x:Ext G h w G' h' w'){k g gl s o l:Nat}(hp:j8 G h w n v (.own k g gl s o l)):j8 G' h' w' n v (.own k g gl s o l):=by
 unfold j8 at hp⊢;obtain⟨a,c,q1,q2,q3,q4,gn,ob,h1,h2,h3⟩:=hp;obtain⟨gn',ob',h4,h5,h6⟩:=x.kp k gn ob h1;refine⟨a,c,q1,q2,q3,q4,gn',ob',h4,i9,fun e sz ver fr es e2=>?_⟩;obtain⟨ver0,fr0,es0,e4,l0,_,e5,_⟩:=(h6 i9).1 sz ver fr es e2;obtain⟨h7,h8⟩:=h3 i9 sz ver0 fr0 es0 e4;refine⟨i9,fun e3=>?_⟩;obtain⟨a1,a2,a3,a4⟩:=e5 i9
 grind
theorem b0v{k g gl s o l:Nat}:a0I G h w v (.own k g gl s o l)↔j8 G h w n v (.own k g gl s o l):=by cases n<;>(unfold a0I j8;exact Iff.rfl)
theorem a0I.ext(x:Ext G h w G' h' w'){e:PV}(hp:a0I G h w v e):a0I G' h' w' v e:=by
 cases e
 case own=>exact(b0v (n:=0)).2 (c9e x ((b0v (n:=0)).1 hp))
 case slc=>unfold a0I at hp⊢;exact PR.mono x.zz x.zw hp
 case J9=>unfold a0I at hp⊢;exact PR.mono x.zz x.zw hp
 case fptr=>unfold a0I at hp⊢;exact PR.mono x.zz x.zw hp
 all_goals (unfold a0I at hp⊢;exact hp)
theorem j8.ext(x:Ext G h w G' h' w'):∀{n:Nat} {v:Value} {p:PV},j8 G h w n v p→j8 G' h' w' n v p:=by
 have base:∀{n:Nat} {v:Value} {p:PV},(∀cs,p≠ .agg cs)→(∀cs,p≠ .tup cs)→(∀f a b,p≠ .fn f a b)→j8 G h w n v p→j8 G' h' w' n v p:=by
  intro n v p na nt nf hp;cases p
  case slc=>unfold j8 at hp⊢;exact PR.mono x.zz x.zw hp
  case J9=>unfold j8 at hp⊢;exact PR.mono x.zz x.zw hp
  case mapv k g=>
   unfold j8 at hp⊢;obtain⟨b,q1,gn,ob,h1,h2,h3⟩:=hp;obtain⟨gn',ob',h4,h5,h6⟩:=x.kp k gn ob h1;refine⟨b,q1,gn',ob',h4,i9,fun e fr ks vs e2=>?_⟩;obtain⟨f0,k0,v0,e3,a1,_⟩:=(h6 i9).2.2 fr ks vs e2;rw[a1];exact h3 i9 f0 k0 v0 e3
  case lst es=>
   unfold j8 at hp⊢;obtain⟨a,c,q1,q2,q3,q4⟩:=hp;refine⟨a,c,q1,q2,q3,fun i e he=>?_⟩;obtain⟨b,o,u,rfl,q5,q6,q7⟩:=q4 i e he;exact⟨b,o,u,rfl,x.zz b q5,by rw[World.cell?_of_block (w:=w) (a:=⟨b,_,none⟩) (x.zw b q5)];exact q6,q7.ext x⟩
  case own k g gl s o l=>
   unfold j8 at hp⊢;obtain⟨a,c,q1,q2,q3,q4,gn,ob,h1,h2,h3⟩:=hp;obtain⟨gn',ob',h4,h5,h6⟩:=x.kp k gn ob h1;refine⟨a,c,q1,q2,q3,q4,gn',ob',h4,i9,fun e sz ver fr es e2=>?_⟩;obtain⟨ver0,fr0,es0,e4,l0,_,e5,_⟩:=(h6 i9).1 sz ver fr es e2;obtain⟨h7,h8⟩:=h3 i9 sz ver0 fr0 es0 e4;refine⟨i9,fun e3=>?_⟩;obtain⟨a1,a2,a3,a4⟩:=e5 i9;obtain⟨b1,b2,b3⟩:=h8 i9;rw[a1,a2,a3];exact⟨b1,b2,b3⟩
  case nown k g ver i j o l=>
   unfold j8 at hp⊢;obtain⟨a,c,q1,q2,q3,q4,gn,ob,h1,h2,h3⟩:=hp;obtain⟨gn',ob',h4,h5,h6⟩:=x.kp k gn ob h1;refine⟨a,c,q1,q2,q3,q4,gn',ob',h4,i9,fun e sz vr fr es e2=>?_⟩;obtain⟨ver0,fr0,es0,e4,_,l0,_,e5⟩:=(h6 i9).1 sz vr fr es e2;obtain⟨h7,h8⟩:=h3 i9 sz ver0 fr0 es0 e4;refine⟨i9,fun e3=>?_⟩;obtain⟨ns,hc,b1,b2,b3⟩:=h8 i9;obtain⟨ns0,c0,l1,a1,a2,a3,a4⟩:=e5 i9 i j ns hc;rw[a1,a2,a4];exact⟨ns0,c0,i9,b2,b3⟩
  case ptr k g o=>
   unfold j8 at hp⊢;obtain⟨b,q1,gn,ob,h1,h2,h3⟩:=hp;obtain⟨gn',ob',h4,h5,h6⟩:=x.kp k gn ob h1;refine⟨b,q1,gn',ob',h4,i9,fun e cs e2=>?_⟩;obtain⟨cs0,e4,a1,_⟩:=(h6 i9).2.1 cs e2;rw[a1];exact h3 i9 cs0 e4
  case vsl k g o s l=>
   unfold j8 at hp⊢;obtain⟨b,f,c,q1,q2,q3,q4,gn,ob,h1,h2,h3⟩:=hp;obtain⟨gn',ob',h4,h5,h6⟩:=x.kp k gn ob h1;refine⟨b,f,c,q1,q2,q3,q4,gn',ob',h4,i9,fun e cs e2=>?_⟩;obtain⟨cs0,e4,a1,_⟩:=(h6 i9).2.1 cs e2;rw[a1];exact h3 i9 cs0 e4
  case eptr k g gl s i j=>
   unfold j8 at hp⊢;obtain⟨b,f,q1,gn,ob,h1,h2,h3⟩:=hp;obtain⟨gn',ob',h4,h5,h6⟩:=x.kp k gn ob h1;refine⟨b,f,q1,gn',ob',h4,i9,fun e sz ver fr es e2=>?_⟩;obtain⟨ver0,fr0,es0,e4,l0,_,e5,_⟩:=(h6 i9).1 sz ver fr es e2;obtain⟨h7,h8⟩:=h3 i9 sz ver0 fr0 es0 e4;refine⟨i9,fun e3=>?_⟩;obtain⟨a1,_⟩:=e5 i9;rw[a1];exact h8 i9
  case nptr k g ver s i j m l=>
   unfold j8 at hp⊢;obtain⟨b,f,q1,gn,ob,h1,h2,h3⟩:=hp;obtain⟨gn',ob',h4,h5,h6⟩:=x.kp k gn ob h1;refine⟨b,f,q1,gn',ob',h4,i9,fun e sz vr fr es e2=>?_⟩;obtain⟨ver0,fr0,es0,e4,_,l0,_,e5⟩:=(h6 i9).1 sz vr fr es e2;obtain⟨h7,h8⟩:=h3 i9 sz ver0 fr0 es0 e4;refine⟨i9,fun e3=>?_⟩;obtain⟨ns,hc,b1,b2,b3⟩:=h8 i9;obtain⟨ns0,c0,l1,a1,a2,a3,a4⟩:=e5 i9 i j ns hc;rw[a1,a4];exact⟨ns0,c0,b1,b2,i9⟩
  case fptr cs=>unfold j8 at hp⊢;exact hp.mono x.zz x.zw
  case agg=>exact absurd rfl (na _)
  case tup=>exact absurd rfl (nt _)
  case fn=>exact absurd rfl (nf _ _ _)
  all_goals (unfold j8 at hp⊢;exact hp)
 intro n
 induction n with
 |zero=>
  intro v p hp;cases p
  case agg|tup|fn=>unfold j8 at hp;exact hp.elim
  all_goals exact base k7 k7 k7 hp
 |succ n ih=>
  intro v p hp;cases p
  case agg cs=>unfold j8 at hp⊢;obtain⟨vs,h1,h2⟩:=hp;exact⟨vs,h1,h2.mono fun _ _ y=>ih y⟩
  case tup cs=>unfold j8 at hp⊢;obtain⟨vs,h1,h2⟩:=hp;exact⟨vs,h1,h2.mono fun _ _ y=>ih y⟩
  case fn f a c=>unfold j8 at hp⊢;obtain⟨vs,us,h1,h2,h3⟩:=hp;exact⟨vs,us,h1,h2.mono fun _ _ y=>ih y,h3.mono fun _ _ y=>ih y⟩
  all_goals exact base k7 k7 k7 hp
theorem j8.up:∀{n:Nat} {v:Value} {p:PV},j8 G h w n v p→j8 G h w (n+1) v p:=by
 intro n
 induction n with
 |zero=>
  intro v p hp;cases p
  case agg|tup|fn=>unfold j8 at hp;exact hp.elim
  all_goals (unfold j8 at hp⊢;exact hp)
 |succ n ih=>
  intro v p hp;cases p
  case agg cs=>unfold j8 at hp⊢;obtain⟨vs,h1,h2⟩:=hp;exact⟨vs,h1,h2.mono fun _ _ y=>ih y⟩
  case tup cs=>unfold j8 at hp⊢;obtain⟨vs,h1,h2⟩:=hp;exact⟨vs,h1,h2.mono fun _ _ y=>ih y⟩
  case fn f a c=>unfold j8 at hp⊢;obtain⟨vs,us,h1,h2,h3⟩:=hp;exact⟨vs,us,h1,h2.mono fun _ _ y=>ih y,h3.mono fun _ _ y=>ih y⟩
  all_goals (unfold j8 at hp⊢;exact hp)
theorem j8.cell{m:Nat}{p:PV}(ha:(∀cs,p≠ .agg cs)∧(∀cs,p≠ .tup cs)∧∀f a b,p≠ .fn f a b)(hp:j8 G h w n v p):j8 G h w m v p:=by
 cases p
 case agg=>exact absurd rfl (ha.1 _)
 case tup=>exact absurd rfl (ha.2.1 _)
 case fn=>exact absurd rfl (ha.2.2 _ _ _)
 all_goals (cases n<;>cases m<;>(unfold j8 at hp⊢;exact hp))
theorem F9.ext{k i j:Nat}{u:Value}{c:PV}(x:Ext G h w G' h' w')(hk:B8 G G' (nest k i j))(hb:G.R (nest k i j)→w'.heap[G.β (nest k i j)]?=w.heap[G.β (nest k i j)]?)(hp:F9 G h w k i j u c):F9 G' h' w' k i j u c:=by
 cases c
 case uslc ns=>
  unfold F9 N7 at hp⊢;obtain⟨a1,a2,a3,a4⟩:=hk;rw[a1,a2,a3,a4];refine⟨fun r=>?_,hp.2⟩;obtain⟨us,T,f,c,h1,h0,h2,h3,h3',h4,h5,h6,h7⟩:=hp.1 r;refine⟨us,T,f,c,h1,h0,h2,h3,h3',by rw[hb r];exact h4,h5,h6,fun i e he=>?_⟩;obtain⟨h8,h9⟩:=h7 i e he;refine⟨h8,fun j c hc=>?_⟩;obtain⟨h10,v,h11,h12⟩:=h9 j c hc;exact⟨h10,v,h11,h12.mono x.zz x.zw⟩
 all_goals (unfold F9 at hp⊢;exact⟨hp.1,hp.2.ext x⟩)
theorem N7.key(x:Ext G h w G' h' w'){key:Key}{u:Value}{ns:List PV}(hk:B8 G G' key)(hb:G.R key→w'.heap[G.β key]?=w.heap[G.β key]?)(hp:N7 G w key u ns):N7 G' w' key u ns:=by unfold N7 at hp⊢;obtain⟨a1,a2,a3,a4⟩:=hk;rw[a1,a2,a3,a4];refine⟨fun r=>?_,hp.2⟩;obtain⟨us,T,f,c,h1,h0,h2,h3,h3',h4,h5,h6,h7⟩:=hp.1 r;refine⟨us,T,f,c,h1,h0,h2,h3,h3',by rw[hb r];exact h4,h5,h6,fun i e he=>?_⟩;obtain⟨h8,h9⟩:=h7 i e he;refine⟨h8,fun j c hc=>?_⟩;obtain⟨h10,v,h11,h12⟩:=h9 j c hc;exact⟨h10,v,h11,h12.mono x.zz x.zw⟩
theorem a0b.ext{k i:Nat}{u:Value}{c:PV}(x:Ext G h w G' h' w')(hk:B8 G G' (nest k i 0))(hb:G.R (nest k i 0)→w'.heap[G.β (nest k i 0)]?=w.heap[G.β (nest k i 0)]?)(hp:a0b G h w k i u c):a0b G' h' w' k i u c:=by
 cases c
 case uslc ns=>unfold a0b at hp⊢;exact N7.key x hk hb hp
 all_goals (unfold a0b at hp⊢;exact hp.ext x)
theorem E5.ext{k:Nat}{o:Ob}(x:Ext G h w G' h' w')(hk:∀y,B8 G G' (k,y))(hb:∀y,G.R (k,y)→w'.heap[G.β (k,y)]?=w.heap[G.β (k,y)]?)(hp:E5 G h w k o):E5 G' h' w' k o:=by
 cases o with
 |dead=>trivial
 |var cs=>
  unfold E5 at hp⊢;obtain⟨r,us,T,h1,h2⟩:=hp;obtain⟨a1,a2,_⟩:=hk none;rw[show G'.β (root k)=G.β (root k)from a1];exact⟨a2.2 r,us,T,by rw[hb none r];exact h1,h2.mono fun _ _ y=>⟨y.1,y.2.ext x⟩⟩
 |mp fr ks vs=>
  unfold E5 at hp⊢;obtain⟨r,h1,es,q,h2,h3,h4⟩:=hp;obtain⟨a1,a2,_⟩:=hk none;rw[show G'.β (root k)=G.β (root k)from a1];refine⟨a2.2 r,h1,es,q,by rw[hb none r];exact h2,h3,fun i c hc=>?_⟩;obtain⟨e,h5,h6⟩:=h4 i c hc;exact⟨e,h5,h6.ext x (hk _) (hb _)⟩
 |arr sz ver fr es=>
  unfold E5 at hp⊢;obtain⟨a1,a2,a3,a4⟩:=hk none;rw[show G'.β (root k)=G.β (root k)from a1,show G'.γ (root k)=G.γ (root k)from a3];obtain⟨h1,h2,h3,h4,h5⟩:=hp;refine⟨h1,h2,h3,fun r=>?_,fun r=>h5 fun y=>r (a2.2 y)⟩;obtain⟨us,T,h6,h7,h8⟩:=h4 (a2.1 r);refine⟨us,T,by rw[hb none (a2.1 r)];exact h6,h7,fun i e he=>?_⟩;obtain⟨h9,h10⟩:=h8 i e he;refine⟨h9,fun j c hc=>?_⟩;obtain⟨u,h11,h12⟩:=h10 j c hc;exact⟨u,h11,h12.ext x (hk _) (hb _)⟩
def b3h(G G':Gh)(h:l5)(k:Nat)(y:Option (Nat×Nat)):Prop:=B8 G G' (k,y)∨(¬G'.R (k,y)∧∀g o,h[k]?=some (g,o)→o=.dead)
theorem p7.update(r:p7 B Z0 G h w)(k:Nat)(g':Nat)(o':Ob)(hk:k<h.length)(x:Ext G h w G' (h.set k (g',o')) w')
 (hs:∀k' y,k'≠k→b3h G G' h k' y) (hw:∀k' y,k'≠k→G.R (k',y)→w'.heap[G.β (k',y)]?=w.heap[G.β (k',y)]?) (hsz:w.heap.size≤w'.heap.size)
 (hz:∀b,G'.Z b→V6 w' b) (hzo:∀b,G'.Z b→G.Z b∨B≤b) (hzn:∀k' y,k'≠k→G.R (k',y)→¬G.Z (G.β (k',y))→¬G'.Z (G.β (k',y)))
 (hl:∀y,G'.R (k,y)→B≤G'.β (k,y)∧V6 w' (G'.β (k,y))∧(a7x o'=true→¬G'.Z (G'.β (k,y)))∧(∀y',G'.R (k,y')→G'.β (k,y)=G'.β (k,y')→y=y')∧∀k' y',k'≠k→G'.R (k',y')→G'.β (k,y)≠G'.β (k',y'))
 (hf:b2u o'=true→∀y,G'.R (k,y)→G'.Z (G'.β (k,y)))
 (ho:E5 G' (h.set k (g',o')) w' k o'):p7 B Z0 G' (h.set k (g',o')) w':=by
 have hs2:∀k' y,k'≠k→G'.R (k',y)→B8 G G' (k',y):=fun k' y hkk hR=>(hs k' y hkk).resolve_right fun x=>x.1 hR;refine⟨S7 r.base hsz,fun b hb=>(hzo b hb).elim (r.zo b) .inr,hz,fun key hkey=>?_,fun k' g o hko hlv y hR=>?_,fun k' g o hko hfo y hR=>?_,fun key key' h1 h2 he=>?_,fun k' g o hko=>?_⟩
 . obtain⟨k',y⟩:=key;by_cases hkk:k'=k
   . grind
   . obtain⟨a1,a2,_⟩:=hs2 k' y hkk hkey;obtain⟨b1,b2⟩:=r.lv _ (a2.1 hkey);rw[a1];exact⟨b1,b2.eq (hw k' y hkk (a2.1 hkey))⟩
 . by_cases hkk:k'=k
   . grind
   . rw[D9 (Ne.symm hkk)]at hko;obtain⟨a1,a2,_⟩:=hs2 k' y hkk hR;rw[a1];exact hzn k' y hkk (a2.1 hR) (r.nz k' g o hko hlv y (a2.1 hR))
 . by_cases hkk:k'=k
   . grind
   . rw[D9 (Ne.symm hkk)]at hko;obtain⟨a1,a2,_⟩:=hs2 k' y hkk hR;rw[a1];exact x.zz _ (r.fz k' g o hko hfo y (a2.1 hR))
 . obtain⟨k1,y1⟩:=key;obtain⟨k2,y2⟩:=key';by_cases hk1:k1=k<;>by_cases hk2:k2=k
   . grind
   . grind
   . grind
   . obtain⟨a1,a2,_⟩:=hs2 k1 y1 hk1 h1;obtain⟨b1,b2,_⟩:=hs2 k2 y2 hk2 h2;exact r.inj _ _ (a2.1 h1) (b2.1 h2) (a1.symm.trans (he.trans b1))
 . by_cases hkk:k'=k
   . grind
   . rw[D9 (Ne.symm hkk)]at hko;by_cases hd:o=.dead
     . subst hd;trivial
     . exact(r.ob k' g o hko).ext x (fun y=>(hs k' y hkk).resolve_right fun x=>hd (x.2 g o hko)) (fun y=>hw k' y hkk)
theorem p7.cells(r:p7 B Z0 G h w)(hs:w.heap.size≤w'.heap.size)(hc:∀b,V6 w b→w'.heap[b]?=w.heap[b]?):p7 B Z0 G h w'∧Ext G h w G h w':=by
 have x:Ext G h w G h w':=⟨fun _ y=>y,fun b hb=>hc b (r.zb b hb),fun k gn ob e=>⟨gn,ob,e,m0 _,fun _=>K5.refl k ob (B8.refl _ _) fun _ _=>B8.refl _ _⟩⟩
 exact⟨⟨S7 r.base hs,r.zo,fun b hb=>(r.zb b hb).eq (hc b (r.zb b hb)),fun key hk=>⟨(r.lv key hk).1,(r.lv key hk).2.eq (hc _ (r.lv key hk).2)⟩,r.nz,r.fz,r.inj,
  fun k g o ho=>(r.ob k g o ho).ext x (fun y=>B8.refl _ _) fun y hR=>hc _ (r.lv _ hR).2⟩,x⟩
end
end
def ofC:Value→Option PV
 | .bool b=>some (.bool b)
 | .int k n=>some (.int k n)
 | .string s=>some (.str s)
 | .pointer none=>some (.lit (.pointer none))
 | .slice none 0 0=>some .nils
 | .nilFunc=>some (.lit .nilFunc)
 | .nilIface=>some (.lit .nilIface)
 | .map none=>some (.lit (.map none))
 |_=>none
def a9b:List Value→Option (List PV)
 | []=>some []
 |c::cs=>match ofC c,a9b cs with
  |some a,some b=>some (a::b)
  |_,_=>none
def ofV:Value→Option PV
 | .agg cs=>(a9b cs.toList).map .agg
 |v=>ofC v
def a1s(P:Program)(t:TypeId):Option Bool:=match P.underlying t with
 |some (.struct _)|some (.array _ _)=>some true
 |some _=>some false
 |none=>none
def H8(P:Program)(t:TypeId):Option Nat:=(P.info? t).map (·.size)
def a0c(P:Program)(t:TypeId):Option PV:=match P.info? t with
 |some i=>match i.zero with
  |some z=>ofV z
  |none=>none
 |none=>none
def a4v(P:Program)(t:TypeId):Option Nat:=(P.info? t).map (·.bytes)
def a8o(P:Program)(t:TypeId)(f:Nat):Option Field:=match P.underlying t with
 |some (.struct fs)=>fs[f]?
 |_=>none
def a3E(P:Program)(t:TypeId):Option TypeId:=match P.underlying t with
 |some (.slice e)=>some e
 |_=>none
def c6l(P:Program)(t:TypeId):Bool:=match P.underlying t with
 |some .bool|some (.int _)|some .string=>true
 |_=>false
def a9W(P:Program)(t:TypeId):Bool:=match P.underlying t with
 |some .bool=>true
 |_=>false
def M8{α β:Type}(f:α→Option β):List α→Option (List β)
 | []=>some []
 |a::l=>match f a,M8 f l with
  |some b,some m=>some (b::m)
  |_,_=>none
def a8y(P:Program):List Field→Option (List (Nat×Nat))
 | []=>some []
 |f::fs=>match P.info? f.type,a8y P fs with
  |some i,some l=>some ((f.offset,i.size)::l)
  |_,_=>none
def a3S(rd:Operand→Option s8):Option Operand→Option (Option s8)
 |none=>some none
 |some x=>(rd x).map some
def a9U(P:Program):Nat→TypeId→Option (List Nat)
 |0,_=>none
 |n+1,t=>match P.underlying t with
  |some (.slice e)=>(H8 P e).map ([·])
  |some (.struct fs)=>(M8 (fun(f:Field)=>a9U P n f.type) fs.toList).map List.flatten
  |some (.array m e)=>(a9U P n e).map fun l=>(List.replicate m l).flatten
  |some (.tuple ts)=>(M8 (a9U P n) ts.toList).map List.flatten
  |some _=>some [0]
  |none=>none
def b3K(k:Nat):List Nat→List (Nat×Nat)
 | []=>[]
 |0::l=>(0,0)::b3K k l
 |s::l=>(k,s)::b3K (k+1) l
def a9P:PV→Bool
 | .int .u8 n=>n==0
 |_=>false
def c0K(P:Program)(t:TypeId):Bool:=match P.underlying t with
 |some .string=>true
 |_=>false
def b6j(P:Program)(t:TypeId):Bool:=match P.underlying t with
 |some (.int _)=>true
 |_=>false
def a8s(P:Program)(rd:Operand→Option s8)(k:Nat)(app:Nat×Option Nat)(b:Builtin)(args:List Operand)(ts:List TypeId):Option N5:=
 match b,args,ts with
 | .len,[x],[t]=>match P.underlying t with
  |some .string=>(rd x).map (.len true)
  |some (.slice _)=>(rd x).map (.len false)
  |some (.array n _)=>some (.lenK n)
  |_=>none
 | .min,x::xs,t::_=>match P.underlying t,M8 rd (x::xs)with
  |some (.int _),some ys=>some (.minmax false ys)
  |_,_=>none
 | .max,x::xs,t::_=>match P.underlying t,M8 rd (x::xs)with
  |some (.int _),some ys=>some (.minmax true ys)
  |_,_=>none
 | .append,[s,x],[t,u]=>match P.underlying t with
  |some (.slice e)=>match H8 P e,a4v P e,(a0c P e),rd s,rd x with
   |some sz,some by_,some z,some s,some x=>if sz≠0∧by_≠0∧(l6 z).length=sz∧u=t∧app.1≠4∧app.1≠5 then some (if app.1=6 then .appendF (app.2.getD k) sz by_ s x else .append (app.2.getD k) sz by_ app.1 s x)else if sz=1∧by_≠0∧a9P z=true∧b6j P u=true then some (.append (app.2.getD k) 1 by_ 4 s x)else if sz=1∧by_≠0∧a9P z=true∧c0K P u=true then some (.append (app.2.getD k) 1 by_ 5 s x)else none
   |_,_,_,_,_=>none
  |_=>none
 | .copy,[d,s],[t,_]=>match P.underlying t with
  |some (.slice e)=>match H8 P e,rd d,rd s with
   |some sz,some d,some s=>if sz≠0 then some (.copy sz d s)else none
   |_,_,_=>none
  |_=>none
 | .clear,[x],[t]=>match P.underlying t with
  |some (.map _ _)=>(rd x).map .clearM
  |some (.slice e)=>match a0c P e,rd x with
   |some z,some x=>if H8 P e=some 1∧(l6 z).length=1∧A6 z=true then some (.clearS z x)else none
   |_,_=>none
  |_=>none
 |_,_,_=>none
def a5J(P:Program)(t:TypeId):Option Nat:=match P.underlying t with
 |some (.array n e)=>if H8 P e=some 1∧n≠0 then some n else none
 |_=>none
def a9J(P:Program)(t:TypeId):Option (Nat×Nat):=match P.underlying t with
 |some (.array n e)=>(H8 P e).map fun s=>(n,s)
 |_=>none
def b9Q(P:Program)(t:TypeId):Bool:=match P.underlying t with
 |some (.pointer _)=>true
 |_=>false
def b9F(P:Program)(t:TypeId):Bool:=match P.underlying t with
 |some (.slice _)=>true
 |_=>false
def a6Q(P:Program)(t:TypeId):Option Nat:=match P.underlying t with
 |some .bool=>some 0
 |some (.int _)=>some 1
 |some .string=>some 2
 |_=>none
def b1i(P:Program):Nat→List Field→Option (List Nat)
 |_,[]=>some []
 |i,f::fs=>if f.name≠ "_" ∧f.offset=i∧H8 P f.type=some 1 then(match a6Q P f.type,b1i P (i+1) fs with
  |some k,some l=>some (k::l)
  |_,_=>none)else none
def b3V(P:Program)(t:TypeId):Option (List Nat):=match P.underlying t with
 |some (.struct fs)=>if P.stoodInHeld t=false∧P.eqGuardType P.depth t=false then b1i P 0 fs.toList else none
 |_=>none
def a0J(ops:List Oper)(t:Tmp):Nat→Option Nat
 |0=>none
 |i+1=>if(ops[i]?.bind (·.dst))=some t then some i else a0J ops t i
def c1t(n:Nat)(ops:List Oper):Bool:=ops.zipIdx.any fun x=>match x.1.op with
 | .call c=>(match c.callee,c.args[0]? with
  | .builtin .append,some (Operand.tmp t)=>(match a0J ops t x.2 with
   |none=>Nat.blt t n
   |some j=>match(ops[j]?).map (·.op)with
    |some (Op.move (Operand.tmp t0))=>Nat.blt t0 n
    |_=>false)
  |_,_=>false)
 |_=>false
def b0c(n:Nat):Code→Bool
 | .region _ ops _=>c1t n ops.toList
 | .seq a b| .cond _ a b| .rangeFunc _ _ a b=>b0c n a||b0c n b
 | .block _ b| .loop b| .scope b=>b0c n b
 |_=>false
def b4c(P:Program)(t:TypeId):Bool:=match P.underlying t with
 |some (.pointer _)|some (.func ..)=>true
 |some (.tuple ts)=>ts.toList.any fun t=>match P.underlying t with
  |some (.pointer _)|some (.func ..)=>true
  |_=>false
 |_=>false
def c0Z(P:Program)(f:FuncId):Bool:=match P.funcs[f]? with
 |some fn=>match fn.body with
  |some c=>fn.params.toList.any (b4c P)||b0c fn.params.size c
  |none=>false
 |none=>false
def c0v(P:Program)(ats:List TypeId)(ty:TypeId):Bool:=ats.any (b4c P)||b4c P ty
def roF:List Nat:=[74,77,40,78,51,56,79,41,83,84,82,55,54,92,60]
def fiF:List Nat:=[75,117,99,113]
def neF:List Nat:=[247]
def a5B(P:Program)(g:TypeId→Option (List Nat)):Nat→List Field→Option (List Nat)
 |_,[]=>some []
 |i,f::fs=>match g f.type with
  |some ts=>if f.name≠ "_" ∧f.offset=i∧H8 P f.type=some ts.length then(a5B P g (i+ts.length) fs).map (ts++ ·)else none
  |none=>none
def a0G(P:Program):Nat→TypeId→Option (List Nat)
 |0,_=>none
 |n+1,t=>match P.underlying t with
  |some .bool=>some [0]
  |some (.int _)=>some [1]
  |some .string=>some [2]
  |some (.struct fs)=>if P.stoodInHeld t=false then a5B P (a0G P n) 0 fs.toList else none
  |_=>none
def a6J(P:Program)(t:TypeId):Option Nat:=match P.underlying t with
 |some .bool=>some 0
 |some (.int _)=>some 1
 |some .string=>some 2
 |some (.struct _)=>(a0G P 3 t).map fun ts=>4+a3O ts
 |_=>none
def mapA(P:Program)(t:TypeId):Option (Nat×PV×Nat):=match P.underlying t with
 |some (.map kt et)=>match a6J P kt,a0c P et with
  |some n,some z=>some (n,z,match a3E P et with
   |some e=>(H8 P e).getD 0
   |none=>0)
  |_,_=>none
 |_=>none
def a2N(P:Program)(rd:Operand→Option s8)(k:Nat)(app:Nat×Option Nat)(al:Bool)(type:TypeId):Op→Option N5
 | .move x| .assign x=>(rd x).map .mv
 | .pick c a b=>match rd c,rd a,rd b with
  |some c,some a,some b=>some (.pick c a b)
  |_,_,_=>none
 | .alloc e=>match a5J P e with
  |some _=>(a0c P e).map fun z=>.allocA k ((l6 z).map a1N)
  |none=>(a0c P e).map fun z=>.alloc k (l6 z)
 | .box e x=>match a5J P e with
  |some _=>(rd x).map (.boxA k)
  |none=>(rd x).map (.box k)
 | .build t ps=>match a0c P t,P.underlying t with
  |some z,some (.struct fs)=>match a8y P fs.toList with
   |some places=>match M8 (fun(p:Nat×Operand)=>match places[p.1]?,rd p.2 with
    |some q,some x=>some (q.1,q.2,x)
    |_,_=>none) ps.toList with
    |some l=>some (.build (l6 z) l)
    |none=>none
   |none=>none
  |some z,some (.array _ e)=>match H8 P e,M8 (fun(p:Nat×Operand)=>(rd p.2).map fun x=>(p.1,x)) ps.toList with
   |some s,some l=>some (.build (l6 z) (l.map fun p=>(p.1*s,s,p.2)))
   |_,_=>none
  |_,_=>none
 | .buildSlice t n ps=>match a3E P t with
  |some e=>match H8 P e,a0c P e,M8 (fun(p:Nat×Operand)=>(rd p.2).map fun x=>(p.1,x)) ps.toList with
   |some s,some z,some l=>if s≠0∧n*s≤16777216∧(l6 z).length=s then some (if app.1=3 then .lit s (List.replicate n z) l else if n=0∧l.length=0∧neF.contains t=true then .lit 0 [] []else .mkarr k s (List.replicate n z) l)else none
   |_,_,_=>none
  |none=>none
 | .load t a=>match a1s P t,H8 P t,rd a with
  |some g,some s,some a=>if s≠0 then some (if app.1=5 then .loadV g s a else if g=true∧a5J P t=some s then .loadA s a else .load g s a)else none
  |_,_,_=>none
 | .store t a v=>match H8 P t,rd a,rd v with
  |some s,some a,some v=>if s≠0 then some (if a5J P t=some s then .storeA s a v else .store s a v)else none
  |_,_,_=>none
 | .nilCheck x=>(rd x).map .nilchk
 | .binOp op t x y _=>if op=.eql∨op=.neq then(if c6l P t then(match rd x,rd y with
  |some x,some y=>some (.bin op (a9W P t) x y)
  |_,_=>none)else if b9F P t then(match rd x,rd y with
   |some x,some y=>some (.eqNil (op==.neq) x y)
   |_,_=>none)else if b9Q P t then(match rd x,rd y with
   |some x,some y=>some (.eqPtr (op==.neq) x y)
   |_,_=>none)else(match b3V P t,rd x,rd y with
  |some ts,some x,some y=>some (.eqS (op==.neq) ts x y)
  |_,_,_=>none))else(match rd x,rd y with
  |some x,some y=>some (.bin op (a9W P t) x y)
  |_,_=>none)
 | .unOp op _ x=>(rd x).map (.un op)
 | .convert s d x=>match P.underlying s,P.underlying d with
  |some (.int _),some (.int k)=>(rd x).map (.conv k)
  |some .string,some .string=>(rd x).map .convId
  |some (.slice e),some .string=>(match P.underlying e with
   |some (.int .u8)=>if H8 P e=some 1 then(rd x).map .convStr else none
   |_=>none)
  |_,_=>none
 | .makeSlice t l c=>match a3E P t with
  |some e=>match H8 P e,a4v P e,a0c P e,rd l,rd c with
   |some s,some b,some z,some l,some c=>if s≠0∧(l6 z).length=s∧(l6 z).all one then some (.makeSlice k s b z l c)else none
   |_,_,_,_,_=>none
  |none=>none
 | .slice t x lo hi mx=>match P.underlying t with
  |some .string=>match rd x,a3S rd lo,a3S rd hi,a3S rd mx with
   |some x,some lo,some hi,some mx=>some (.slice true 0 x lo hi mx)
   |_,_,_,_=>none
  |some (.slice e)=>match H8 P e,rd x,a3S rd lo,a3S rd hi,a3S rd mx with
   |some s,some x,some lo,some hi,some mx=>some (.slice false s x lo hi mx)
   |_,_,_,_,_=>none
  |some (.array _ _)=>match a5J P t,rd x,a3S rd lo,a3S rd hi,mx with
   |some n,some x,some lo,some hi,none=>some (.sliceA n x lo hi)
   |none,some x,some lo,some hi,none=>(a9J P t).map fun y=>.sliceV y.1 y.2 x lo hi
   |_,_,_,_,_=>none
  |_=>none
 | .fieldAddr s x f=>match a8o P s f with
  |some f=>match H8 P f.type,rd x with
   |some s,some x=>if s≠0 then some (.fieldAddr f.offset x)else none
   |_,_=>none
  |none=>none
 | .field t x f=>match a8o P t f with
  |some f=>match a1s P f.type,H8 P f.type,rd x with
   |some g,some s,some x=>if s≠0 then some (.field g f.offset s x)else none
   |_,_,_=>none
  |none=>none
 | .indexAddr t x i=>match P.underlying t with
  |some (.slice e)=>match H8 P e,rd x,rd i with
   |some s,some x,some i=>if s≠0 then some (.indexAddr s x i)else none
   |_,_,_=>none
  |some (.array n e)=>match H8 P e,rd x,rd i with
   |some s,some x,some i=>if s≠0 then some (.indexAddrA n s x i)else none
   |_,_,_=>none
  |_=>none
 | .index t x i=>match P.underlying t with
  |some (.array n e)=>match a1s P e,H8 P e,rd x,rd i with
   |some g,some s,some x,some i=>if s≠0 then some (.indexA g n s x i)else none
   |_,_,_,_=>none
  |some .string=>match rd x,rd i with
   |some x,some i=>some (.indexS x i)
   |_,_=>none
  |_=>none
 | .extract x i=>(rd x).map (.extract · i)
 | .makeFunc f a b=>match M8 rd a.toList,M8 rd b.toList with
  |some a,some b=>some (.mkfn f a b)
  |_,_=>none
 | .call c=>match c.callee with
  | .builtin b=>a8s P rd k app b c.args.toList c.argTypes.toList
  | .value (.func f)=>if((c0v P c.argTypes.toList type||c0Z P f)&&!roF.contains f)||fiF.contains f then(match rd (.func f),M8 rd c.args.toList with
   |some f,some l=>some (.callv f l)
   |_,_=>none)else(match M8 rd c.args.toList,a9U P 5 type with
   |some l,some ks=>some (.call f l (b3K k ks) (!al&&c.argTypes.all fun t=>(a0G P 4 t).isSome))
   |_,_=>none)
  | .value f=>match rd f,M8 rd c.args.toList with
   |some f,some l=>some (if al then .cally f l else .callv f l)
   |_,_=>none
  |_=>none
 | .makeInterface .. | .panic _=>some .stuck
 | .makeMap t r=>match r with
  |none=>some (.makeMap k none)
  |some r=>(match P.underlying t with
   |some (.map _ _)=>(rd r).map fun d=>.makeMap k (some d)
   |_=>none)
 | .lookup t m x ok=>match mapA P t,rd m,rd x with
  |some (kt,z,s),some m,some x=>some (if app.1=7∧ok=false∧s≠0 then .lookupT k kt s z m x else .lookup kt ok z m x)
  |_,_,_=>none
 | .mapUpdate t m x v| .insert t m x v=>match mapA P t,rd m,rd x,rd v with
  |some (kt,_,_),some m,some x,some v=>some (.mapUpd kt m x v)
  |_,_,_,_=>none
 |_=>none
def K8:N5→Nat
 | .alloc .. | .box .. | .makeSlice .. | .allocA .. | .boxA .. | .makeMap .. =>1
 | .lit .. | .mkarr .. | .load .. | .loadV .. | .call .. | .loadA .. | .convStr .. | .lookup .. =>2
 | .append _ _ _ m _ _=>if m=2 then 2 else 3
 | .appendF .. =>2
 | .store .. | .storeN .. | .copy .. | .callv .. | .cally .. | .storeA .. | .mapUpd .. | .lookupT .. | .clearM .. | .clearS .. =>3
 |_=>0
def a0h(vs:List Nat)(ops:List Oper)(i:Nat):Operand→Option s8
 | .tmp t=>match a0J ops t i with
  |some j=>some (.l j)
  |none=>(vs.idxOf? t).map .v
 | .const v=>(ofV v).map .c
 | .func f=>some (.c (.fn (.func f) [] []))
 | .global _=>none
def a7d(o:Oper):List Tmp:=o.op.operands.toList.filterMap fun(x:Operand)=>match x with| .tmp t=>some t|_=>none
def a6e(o:Oper)(rd:Operand→Option s8)(x:Operand):Option s8:=match x with
 | .tmp t=>if(a7d o).contains t then rd x else none
 |x=>rd x
def b5c(ops:List Oper)(i:Nat):Option Operand→Bool
 |some (Operand.tmp t)=>match a0J ops t i with
  |some j=>match(ops[j]?).map (·.op)with
   |some (Op.buildSlice ..)=>true
   |_=>false
  |none=>false
 |_=>false
def b6a(xs:List k8)(dr:Bool):Nat→Nat→Option Nat
 |0,_=>none
 |n+1,j=>match(xs[j]?).map (·.op)with
  |some (N5.mkarr k ..)=>some k
  |some (N5.makeSlice k ..)=>some k
  |some (N5.append k _ _ 2 _ _)=>some k
  |some (N5.call _ _ [(k,s)] _)=>if dr∧s≠0 then some k else none
  |some (N5.mv (.l j'))=>if dr then b6a xs dr n j' else none
  |_=>none
def newAt(ops:List Oper)(xs:List k8)(dr:Bool)(i:Nat):Option Operand→Option Nat
 |some (Operand.tmp t)=>match a0J ops t i with
  |some j=>b6a xs dr 4 j
  |none=>none
 |_=>none
def readOnly(P:Program)(vs:List Nat)(ops:List Oper)(i:Nat):Option Tmp→Bool
 |some t=>!vs.contains t&&(ops.drop (i+1)).all fun o=>!(a7d o).contains t||(match o.op with
  | .call c=>(match c.callee with
   | .value (.func f)=>!(((c0v P c.argTypes.toList o.type||c0Z P f)&&!roF.contains f)||fiF.contains f)
   |_=>false)
  | .buildSlice .. | .build .. =>true
  |_=>false)
 |none=>false
def c7z(P:Program)(vs:List Nat)(ops:List Oper)(i:Nat)(t:Option Tmp):Bool:=readOnly P vs ops i t&&(match t with
 |some t=>ops.zipIdx.any fun o=>Nat.blt i o.2&&(a7d o.1).contains t&&(match o.1.op with
  | .buildSlice .. =>readOnly P vs ops o.2 o.1.dst
  |_=>false)
 |none=>false)
def a5k(acc:List Nat)(o:Oper):Nat:=
 o.after.toList.foldr (fun e m=>if Region.binds .any e&&Nat.blt e.on acc.length then m|||(2^e.on|||acc.getD e.on 0)else m) 0
def H9(acc:List Nat):List Oper→List Nat
 | []=>acc
 |o::rest=>H9 (acc++[a5k acc o]) rest
def S5(ws:List Nat)(i j:Nat):Bool:=if j<i then !((ws.getD i 0).testBit j)else if i<j then !((ws.getD j 0).testBit i)else false
def b7m(ops:List Oper)(i:Nat)(o:Oper):Bool:=match o.op with
 | .lookup _ _ _ false=>match o.dst with
  |some t=>(ops.drop (i+1)).any fun o=>match o.op with
   | .call c=>(match c.callee with
    | .builtin .append=>(match c.args[0]? with
     |some (Operand.tmp t')=>t'==t
     |_=>false)
    |_=>false)
   |_=>false
  |none=>false
 |_=>false
def c1T(ops:List Oper)(ws:List Nat)(i:Nat):Bool:=ops.zipIdx.any fun x=>S5 ws i x.2&&(b7m ops x.2 x.1||(match x.1.op with
 | .call c=>(match c.callee with
  | .builtin .append=>true
  |_=>false)
 |_=>false))
def a8x(ops:List Oper):Nat→Nat→Nat→Bool
 |0,_,_=>false
 |n+1,i,t=>match a0J ops t i with
  |none=>true
  |some j=>(match(ops[j]?).map (·.op)with
   |some (Op.fieldAddr _ (Operand.tmp t') _)=>a8x ops n j t'
   |some (Op.nilCheck (Operand.tmp t'))=>a8x ops n j t'
   |some (Op.move (Operand.tmp t'))=>a8x ops n j t'
   |some (Op.load _ (Operand.tmp t'))=>a8x ops n j t'
   |_=>false)
def tight(os:List Op)(ws:List Nat)(i:Nat):Bool:=os.zipIdx.all fun x=>!S5 ws i x.2||(match x.1 with
 | .move _| .assign _=>true
 |_=>false)
def c7w(P:Program)(vs:List Nat)(ops:List Oper)(xs:List k8)(dr:Bool)(i:Nat)(o:Oper):Nat×Option Nat:=match o.op with
 | .call c=>match c.callee with
  | .builtin .append=>match newAt ops xs dr i c.args[0]? with
   |some k=>if b5c ops i c.args[1]?&&(!dr||tight (ops.map fun o=>o.op) (H9 [] ops) i)then(1,none)else if c7z P vs ops i o.dst then(6,some k)else(2,some k)
   |none=>if b5c ops i c.args[1]? then(1,none)else(0,none)
  |_=>(0,none)
 | .buildSlice .. =>if readOnly P vs ops i o.dst then(3,none)else(0,none)
 | .load _ (.tmp t)=>if dr&&a8x ops 6 i t&&c1T ops (H9 [] ops) i then(5,none)else(0,none)
 | .lookup .. =>if b7m ops i o then(7,none)else(0,none)
 |_=>(0,none)
def b2B(N:Nat)(o:Oper):Bool:=match o.dst with
 |some t=>Nat.blt t N
 |none=>true
def a4Q(P:Program)(vs:List Nat)(N:Nat)(ops:List Oper)(al:Bool):List k8→Nat→List Oper→Option (List k8×Nat)
 |acc,k,[]=>some (acc,k)
 |acc,k,o::rest=>match a2N P (a6e o (a0h vs ops acc.length)) k (c7w P vs ops acc (!al) acc.length o) al o.type o.op with
  |none=>none
  |some x=>match(match o.guard with
   |none=>some none
   |some (j,b)=>match(ops[j]?).bind (·.dst)with
    |some t=>(a0h vs ops acc.length (.tmp t)).map fun d=>some (d,b)
    |none=>none)with
   |none=>none
   |some g=>if b2B N o then a4Q P vs N ops al (acc++[{op:=x,var:=o.dst.bind (vs.idxOf? ·),guard:=g,hide:=[]}]) (k+b3e x) rest else none
def a7N:N5→Bool
 | .call _ args _ al=>al||args.all fun a=>match a with
  | .c p=>a3f p
  |_=>false
 |_=>false
def isApp:N5→Bool
 | .append .. | .lookupT .. =>true
 |_=>false
def a5s:N5→Bool
 | .loadV .. =>true
 |_=>false
def isLit:N5→Bool
 | .lit .. | .mkarr .. =>true
 |_=>false
def quiet(op:N5):Bool:=a7N op||a5s op||isLit op
def a4j:N5→Bool
 | .callv .. =>true
 |_=>false
def avC:s8→Option Nat
 | .l n=>if Nat.blt n 1000000 then some n else none
 | .v t=>some (t+1000000)
 | .c _=>none
def a6c(x y:k8):Bool:=match x.op with
 | .load _ _ m=>(match avC m with
  |some n=>(match y.op with
   | .storeN _ _ _ av=>av.contains n
   | .callv .. =>y.hide.contains (n+1000000)
   |_=>false)
  |none=>false)
 |_=>false
def avV(xs:List k8)(y:k8):Bool:=(match y.op with
 | .storeN _ _ _ av=>av
 | .callv .. =>y.hide.map (· -1000000)
 |_=>[]).all fun n=>Nat.blt n 1000000||xs.all fun z=>z.var !=some (n-1000000)
def a2y(x y:k8):Bool:=K8 x.op==0||K8 y.op==0||(K8 x.op≤2&&K8 y.op≤2)||(isApp x.op&&quiet y.op)||(quiet x.op&&isApp y.op)||(a6c x y||a6c y x)||(a4j x.op&&K8 y.op==1)||(K8 x.op==1&&a4j y.op)
def a9m(ws:List Nat)(xs:List k8)(i:Nat):List Nat:=
 ((xs.zipIdx.filter fun y=>S5 ws i y.2).map fun y=>G8 y.1.op).flatten
def avOf(ws:List Nat)(xs:List k8)(i:Nat):List Nat:=xs.zipIdx.filterMap fun y=>if Nat.blt y.2 i&&S5 ws i y.2 then(match y.1.op with
 | .load _ _ m=>avC m
 |_=>none)else none
def a2u(ws:List Nat)(xs:List k8)(i:Nat)(x:k8):k8:=match x.op,avOf ws xs i with
 | .store sz a v,n::l=>{x with op:=.storeN sz a v (n::l),hide:=a9m ws xs i}
 | .callv f b,l=>{x with op:=.callv f b,hide:=a9m ws xs i++l.map (· +1000000)}
 |_,_=>{x with hide:=a9m ws xs i}
def a6P:N5→Bool
 | .cally .. =>true
 |_=>false
def b6g(ops:List Oper)(ws:List Nat)(xs:List k8):Bool:=
 (xs.all fun y=>avV xs y)&&(!xs.any fun x=>a6P x.op)&&(!xs.any (fun x=>a4j x.op)||!xs.any (fun x=>a5s x.op))&&(List.range ops.length).all fun j=>(List.range j).all fun i=>
  !S5 ws j i||((match ops[i]?,ops[j]? with
   |some a,some b=>a.apart ops.toArray b&&b.apart ops.toArray a
   |_,_=>false)&&(match xs[i]?,xs[j]? with
   |some a,some b=>a2y a b
   |_,_=>false))
def a4y:Nat→List Oper→Bool
 |_,[]=>true
 |i,o::r=>o.after.all (fun e=>!Region.binds .any e||Nat.blt e.on i)&&a4y (i+1) r
def a4S(P:Program)(vs:List Nat)(N:Nat)(k:Nat)(ops:List Oper)(draw:Bool):Option (List k8×Nat):=
 match a4Q P vs N ops (!draw) [] k ops with
 |none=>none
 |some (xs,k')=>
  if draw then
   let ws:=H9 [] ops
   let ys:=xs.zipIdx.map fun y=>a2u ws xs y.2 y.1
   if b6g ops ws ys&&a4y 0 ops then some (ys,k')else none
  else some (xs,k')
def c5t(ops:List Oper):Option Nat:=ops.findIdx? fun o=>match o.op with
 | .call c=>(match c.callee with
  | .value (.tmp _)=>true
  |_=>false)
 |_=>false
def b5s(ops:List Oper)(m:Nat):Bool:=(List.range (ops.length-m)).all fun d=>(List.range (m+d)).all fun j=>((H9 [] ops).getD (m+d) 0).testBit j
def b6K(P:Program)(vs:List Nat)(N:Nat)(k:Nat)(ops:List Oper)(m:Nat):Option (List k8×Nat):=
 if b5s ops m&&a4y 0 ops&&Nat.blt m ops.length then match a4S P vs N k (ops.take m) true with
  |some (xs,k1)=>a4Q P vs N ops true xs k1 (ops.drop m)
  |none=>none
 else none
def b1k(P:Program)(vs:List Nat)(N:Nat)(k:Nat)(ops:List Oper)(draw:Bool):Option (List k8×Nat):=
 match draw,c5t ops with
 |true,some m=>(match b6K P vs N k ops m with
  |some r=>some r
  |none=>a4S P vs N k ops true)
 |d,_=>a4S P vs N k ops d
def Y4:Code→Bool
 | .seq a b| .cond _ a b=>Y4 a&&Y4 b
 | .block _ b| .loop b| .scope b=>Y4 b
 | .rangeFunc .. =>false
 |_=>true
def E4(P:Program)(vs:List Nat)(N:Nat):Nat→Code→Option (C6×Nat)
 |k,.skip=>some (.skip,k)
 |k,.region _ ops d=>match b1k P vs N k ops.toList d with
  |some (xs,k')=>some (.reg xs,k')
  |none=>none
 |k,.seq a b=>match E4 P vs N k a with
  |some (x,k1)=>match E4 P vs N k1 b with
   |some (y,k2)=>some (.seq x y,k2)
   |none=>none
  |none=>none
 |k,.cond c a b=>match E4 P vs N k a with
  |some (x,k1)=>match E4 P vs N k1 b with
   |some (y,k2)=>match a0h vs [] 0 c with
    |some c=>some (.cond c x y,k2)
    |none=>none
   |none=>none
  |none=>none
 |k,.block id b=>match E4 P vs N k b with
  |some (x,k1)=>some (.block id x,k1)
  |none=>none
 |k,.loop b=>match E4 P vs N k b with
  |some (x,k1)=>some (.loop x,k1)
  |none=>none
 |k,.exit id=>some (.exit id,k)
 |k,.ret=>some (.ret,k)
 |k,.scope b=>E4 P vs N k b
 |k,.label _=>some (.skip,k)
 |k,.rangeFunc g ps a b=>match E4 P vs N k a with
  |some (x,k1)=>match E4 P vs N k1 b with
   |some (y,k2)=>match a0h vs [] 0 g with
    |some g=>if Y4 a&&Y4 b&&ps.all (Nat.blt · N)then some (.rfor g (ps.toList.map fun t=>vs.idxOf? t) x y,k2)else none
    |none=>none
   |none=>none
  |none=>none
 |_,_=>none
def c1I(ops:List Oper):List Tmp:=
 ((ops.zipIdx.map fun x=>(a7d x.1++(match x.1.guard with|some (j,_)=>((ops[j]?).bind (·.dst)).toList|none=>[])).filter fun t=>(a0J ops t x.2).isNone).flatten)
def a3b:Code→List Tmp
 | .region _ ops _=>c1I ops.toList
 | .seq a b=>a3b a++a3b b
 | .cond (.tmp t) a b=>t::(a3b a++a3b b)
 | .cond _ a b=>a3b a++a3b b
 | .block _ b| .loop b| .scope b=>a3b b
 | .rangeFunc (.tmp t) _ a b=>t::(a3b a++a3b b)
 | .rangeFunc _ _ a b=>a3b a++a3b b
 |_=>[]
structure A0 where
 ntmps:Nat
 vars:List Nat
 sites:Nat
 results:List (Nat×Option (Bool×Nat))
 body:C6
 deriving Inhabited
def b5D(t:Nat):List Nat→List Nat
 | []=>[t]
 |a::l=>if t<a then t::a::l else if t=a then a::l else a::b5D t l
def varsOf(f:Func)(c:Code):List Nat:=
 (List.range (f.params.size+f.nfree)++a3b c++f.results.toList.map fun(r:ResultVar)=>match r with| .tmp t=>t| .cell a _=>a).foldl (fun l t=>b5D t l) []
def a7h(P:Program)(f:FuncId):Option A0:=
 match P.funcs[f]? with
 |none=>none
 |some fn=>match fn.body with
  |none=>none
  |some c=>
   let vs:=varsOf fn c
   match E4 P vs fn.ntmps 0 c,M8 (fun(r:ResultVar)=>match r with
    | .tmp t=>(vs.idxOf? t).map fun v=>(v,none)
    | .cell a t=>match vs.idxOf? a,a1s P t,H8 P t with
     |some v,some g,some s=>some (v,some (g,s))
     |_,_,_=>none) fn.results.toList with
   |some (x,k),some rs=>if !(fn.name== "runtime.NumGoroutine")∧a3j vs=true∧vs.all (Nat.blt · fn.ntmps)=true∧fn.params.size+fn.nfree≤fn.ntmps then some ⟨fn.ntmps,vs,k,rs,x⟩else none
   |_,_=>none
def S0(P:Program)(f:FuncId)(off:Nat):Option A0:=
 match P.funcs[f]? with
 |none=>none
 |some fn=>match fn.body with
  |none=>none
  |some c=>
   let vs:=varsOf fn c
   match E4 P vs fn.ntmps off c,M8 (fun(r:ResultVar)=>match r with
    | .tmp t=>(vs.idxOf? t).map fun v=>(v,none)
    | .cell a t=>match vs.idxOf? a,a1s P t,H8 P t with
     |some v,some g,some s=>some (v,some (g,s))
     |_,_,_=>none) fn.results.toList with
   |some (x,k),some rs=>if !(fn.name== "runtime.NumGoroutine")∧a3j vs=true∧vs.all (Nat.blt · fn.ntmps)=true∧fn.params.size+fn.nfree≤fn.ntmps then some ⟨fn.ntmps,vs,k,rs,x⟩else none
   |_,_=>none
section
variable{v:Value}{n b o:Nat}{cs:List PV}{p c r:PV}{t:TypeId}
def Good(P:Program)(B:Nat)(Z0:Nat→Prop)(G:Gh)(h:l5)(w:World)(s:Sem Next)(p:PV)(ws:List (Nat×Row)):Prop:=
 ∃n v w' G',s.run P w=.ok n w'∧(n=.value v∨n=.skip∧v=undef)∧p7 B Z0 G' (m6 h ws) w'∧Ext G h w G' (m6 h ws) w'∧j8 G' (m6 h ws) w' D v p∧Bl B w w'
section
variable{P:Program}{B:Nat}{Z0:Nat→Prop}{G:Gh}{h:l5}{w:World}
theorem a2K(hr:p7 B Z0 G h w){s:Sem Next}(hs:s.run P w=.ok (.value v) w)(hv:j8 G h w D v p):Good P B Z0 G h w s p []:=
 ⟨_,v,w,G,hs,.inl rfl,hr,Ext.refl,hv,Bl.refl _ _⟩
theorem a3i(hr:p7 B Z0 G h w){s:Sem Value}(hs:s.run P w=.ok v w)(hv:j8 G h w D v p):Good P B Z0 G h w (do pure (.value (←s))) p []:=
 a2K hr (by simp[hs]) hv
theorem a1c{b:Bool}(hv:j8 G h w n v (.bool b)):v=.bool b:=by cases n<;>(unfold j8 at hv;exact hv)
theorem V0{k:IntKind}{i:Int}(hv:j8 G h w n v (.int k i)):v=.int k i:=by cases n<;>(unfold j8 at hv;exact hv)
theorem a2q{s:ByteArray}(hv:j8 G h w n v (.str s)):v=.string s:=by cases n<;>(unfold j8 at hv;exact hv)
theorem Z7(hv:j8 G h w n v .nils):v=.slice none 0 0:=by cases n<;>(unfold j8 at hv;exact hv)
theorem a2M{es:List PV}(hv:j8 G h w n v (.slc es)):PR G.Z w v (.slc es):=by cases n<;>(unfold j8 at hv;exact hv)
theorem a4K(hv:j8 G h w D v (.agg cs)):∃vs,v=.agg vs∧I6 (j8 G h w 5) vs cs:=by unfold D at hv;unfold j8 at hv;exact hv
theorem a8n(hv:j8 G h w D v (.tup cs)):∃vs,v=.tuple vs∧I6 (j8 G h w 5) vs cs:=by unfold D at hv;unfold j8 at hv;exact hv
theorem a8C{f:Fn}{a b:List PV}(hv:j8 G h w D v (.fn f a b)):∃vs us,v=.func f vs us∧I6 (j8 G h w 5) vs a∧I6 (j8 G h w 5) us b:=by unfold D at hv;unfold j8 at hv;exact hv
theorem a1l{b:Bool}:j8 G h w n (.bool b) (.bool b):=by cases n<;>(unfold j8;rfl)
theorem a0z{k:IntKind}{i:Int}:j8 G h w n (.int k i) (.int k i):=by cases n<;>(unfold j8;rfl)
theorem a4J{s:ByteArray}:j8 G h w n (.string s) (.str s):=by cases n<;>(unfold j8;rfl)
theorem a4W:j8 G h w n (.slice none 0 0) .nils:=by cases n<;>(unfold j8;rfl)
theorem L3:j8 G h w n v .uu:=by cases n<;>(unfold j8;trivial)
theorem a1d{es:List PV}(hp:PR G.Z w v (.slc es)):j8 G h w n v (.slc es):=by cases n<;>(unfold j8;exact hp)
theorem a7y{ks vs:List PV}(hp:PR G.Z w v (.J9 ks vs)):j8 G h w n v (.J9 ks vs):=by cases n<;>(unfold j8;exact hp)
theorem a9l{ks vs:List PV}(hv:j8 G h w n v (.J9 ks vs)):PR G.Z w v (.J9 ks vs):=by cases n<;>(unfold j8 at hv;exact hv)
theorem a4P(hp:PR G.Z w v (.fptr cs)):j8 G h w n v (.fptr cs):=by cases n<;>(unfold j8;exact hp)
theorem a9t(hv:j8 G h w n v (.fptr cs)):PR G.Z w v (.fptr cs):=by cases n<;>(unfold j8 at hv;exact hv)
theorem a6l{vs:Array Value}(hp:I6 (j8 G h w 5) vs cs):j8 G h w D (.agg vs) (.agg cs):=by unfold D;unfold j8;exact⟨vs,rfl,hp⟩
theorem b0O(ho:T6 c=true):(∀cs,c≠ .agg cs)∧(∀cs,c≠ .tup cs)∧∀f a b,c≠ .fn f a b:=by refine⟨fun cs e=>?_,fun cs e=>?_,fun f a b e=>?_⟩<;>(subst e;simp[T6]at ho)
theorem b8a(ho:one c=true)(hf:∀f a b,c≠ .fn f a b):T6 c=true:=by cases c<;>first|exact ho|exact absurd rfl (hf _ _ _)
theorem one_cell{m:Nat}(ho:one c=true)(hv:j8 G h w n v c)(hm:0<m:=by decide):j8 G h w m v c:=by
 by_cases hf:∃f a b,c=.fn f a b
 . obtain⟨f,a,b,rfl⟩:=hf;simp only[one,E6]at ho;obtain⟨m,rfl⟩:∃k,m=k+1:=⟨m-1,i9⟩
   cases n with
   |zero=>unfold j8 at hv;exact hv.elim
   |succ n=>
    unfold j8 at hv⊢;obtain⟨vs,us,h1,h2,h3⟩:=hv;refine⟨vs,us,h1,⟨h2.1,fun i p hp=>?_⟩,⟨h3.1,fun i p hp=>?_⟩⟩
    . obtain⟨u,q1,q2⟩:=h2.2 i p hp;exact⟨u,q1,q2.cell (b0O (A8.1 ho.1 p (C8 hp)))⟩
    . obtain⟨u,q1,q2⟩:=h3.2 i p hp;exact⟨u,q1,q2.cell (b0O (A8.1 ho.2 p (C8 hp)))⟩
 . exact hv.cell (b0O (b8a ho fun f a b e=>hf ⟨f,a,b,e⟩))
theorem a1y(ho:one c=true)(hp:PR G.Z w v c):j8 G h w D v c:=by
 cases c
 case slc es=>exact a1d hp
 case J9 ks vs=>unfold D;unfold j8;exact hp
 case fptr cs=>exact a4P hp
 case fn f a b=>
  obtain⟨n,hp⟩:=hp;cases a with
  |cons=>cases n<;>(unfold K0 at hp;exact hp.elim)
  |nil=>
   cases b with
   |cons=>cases n<;>(unfold K0 at hp;exact hp.elim)
   |nil=>
    have e:v=.func f #[] #[]:=(by cases n<;>(unfold K0 at hp;exact hp));unfold D;unfold j8;exact⟨_,_,e,⟨rfl,fun i c hc=>by simp at hc⟩,⟨rfl,fun i c hc=>by simp at hc⟩⟩
 all_goals
  obtain⟨n,hp⟩:=hp
  first
   |(cases n<;>(unfold K0 at hp;unfold D;unfold j8;exact hp))
   |(cases n<;>(unfold K0 at hp;exact hp.elim))
   |(simp[one,T6]at ho)
theorem b9y{op:BinOp}{x y:Operand}{a b:Value}{q:PV}(ha:j8 G h w D a p)(hb:j8 G h w D b q)(hk:a6y op (a9W P t) p q=some r):
 ∃v,(do eqGuard op t x y a b;Go.binOp op t a b:Sem Value).run P w=.ok v w∧j8 G h w D v r:=by
 cases p<;>cases q<;>(try (simp[a6y]at hk;done))
 case int.int k i k' j=>
  obtain rfl:=V0 ha;obtain rfl:=V0 hb;have hg:(eqGuard op t x y (.int k i) (.int k' j)).run P w=.ok () w:=by unfold eqGuard;cases op<;>simp
  simp only[N8,hg,Q8];cases op<;>simp only[a6y]at hk<;>simp only[Go.binOp]
  case shl=>
   split at hk
   . cases hk
   . cases hk;rename_i hn;refine⟨_,?_,a0z⟩;simp[Op.shift,hn]
  case shr=>
   split at hk
   . cases hk
   . cases hk;rename_i hn;refine⟨_,?_,a0z⟩;simp[Op.shift,hn]
  case quo|rem=>
   split at hk
   . rename_i hkk;subst hkk;split at hk
     . cases hk
     . cases hk;rename_i hn;refine⟨_,?_,a0z⟩;simp[Op.intDiv,hn]
   . cases hk
  case eql|neq|lss|leq|gtr|geq=>
   split at hk
   . rename_i hkk;subst hkk;cases hk;refine⟨_,?_,a1l⟩;simp[Op.intCmp]
   . cases hk
  all_goals
   split at hk
   . rename_i hkk;subst hkk;cases hk;refine⟨_,?_,a0z⟩;simp[Op.intArith,Op.intBits,a4N,orI,b8L,b6X]
   . cases hk
 case bool.bool i j=>
  obtain rfl:=a1c ha;obtain rfl:=a1c hb;have hg:(eqGuard op t x y (.bool i) (.bool j)).run P w=.ok () w:=by unfold eqGuard;cases op<;>simp
  simp only[N8,hg,Q8];simp only[a6y]at hk;split at hk
  . cases hk
  . rename_i hbt;have hu:P.underlying t=some .bool:=by
     unfold a9W at hbt;split at hbt
     . assumption
     . simp at hbt
    have he:=run_equal_bool (P:=P) w t i j hu;cases op<;>simp at hk<;>subst hk<;>simp only[Go.binOp]<;>(refine⟨_,?_,a1l⟩;simp[he];try (first|rfl|(cases i<;>cases j<;>rfl)))
 case str.str i j=>
  obtain rfl:=a2q ha;obtain rfl:=a2q hb;have hg:(eqGuard op t x y (.string i) (.string j)).run P w=.ok () w:=by unfold eqGuard;cases op<;>simp
  simp only[N8,hg,Q8];cases op<;>simp only[a6y]at hk<;>(try (cases hk;done))<;>simp only[Go.binOp]
  case add=>
   split at hk
   . cases hk
   . cases hk;rename_i hn;exact⟨_,by simp only[Op.stringOp,hn,if_false];rfl,a4J⟩
  all_goals (cases hk;exact⟨_,by simp only[Op.stringOp];rfl,a1l⟩)
theorem c2m{op:UnOp}{a:Value}(ha:j8 G h w D a p)(hk:unP op p=some r):∃v,(Op.unary op a).run P w=.ok v w∧j8 G h w D v r:=by
 cases p<;>(try (simp[unP]at hk;done))
 case bool b=>obtain rfl:=a1c ha;cases op<;>simp[unP]at hk;subst hk;refine⟨_,?_,a1l⟩;simp[Op.unary]
 case int k n=>obtain rfl:=V0 ha;cases op<;>simp[unP]at hk;subst hk;refine⟨_,?_,a0z⟩;simp[Op.unary,Op.intArith]
def a7D(R:Nat→Value→PV→Prop)(w:World)(b o:Nat)(cs:List PV):Prop:=∀(j:Nat) c,cs[j]?=some c→∃u,w.cell? ⟨b,o+j,none⟩=some u∧R j u c
theorem c6r{sz:Nat}(hi:a1s P t=some true)(hs:H8 P t=some sz)(f:Nat→Value)(hc:∀j,j<sz→w.cell? ⟨b,o+j,none⟩=some (f j)):
 (Instr.loadAt t (.pointer (some ⟨b,o,none⟩))).run P w=.ok (.agg ((List.range sz).map f).toArray) w:=by
 unfold a1s at hi;unfold H8 at hs;obtain⟨i,hi1,rfl⟩:=C5.1 hs;have hl:=run_loadCells (P:=P) w ⟨b,o,none⟩ i.size f (fun j hj=>by rw[Addr.add_lit];exact hc j hj);split at hi<;>rename_i hu
 . simp[Instr.loadAt,Instr.sureAddr,loadVar,isAgg,run_underlying hu,sizeOf,typeInfo,hi1,hl]
 . simp[Instr.loadAt,Instr.sureAddr,loadVar,isAgg,run_underlying hu,sizeOf,typeInfo,hi1,hl]
 . simp at hi
 . simp at hi
theorem c5a(hi:a1s P t=some false)(hc:w.cell? ⟨b,o,none⟩=some v):
 (Instr.loadAt t (.pointer (some ⟨b,o,none⟩))).run P w=.ok v w:=by
 unfold a1s at hi;split at hi
 . simp at hi
 . simp at hi
 . rename_i d h1 h2 hu;have:(isAgg t).run P w=.ok false w:=by
    unfold isAgg;simp only[N8,run_underlying hu,Q8];cases d<;>first|rfl|exact absurd rfl (h1 _)|exact absurd rfl (h2 _ _)
   simp[Instr.loadAt,Instr.sureAddr,loadVar,this,run_load,hc]
 . simp at hi
theorem a7C{R:Nat→Value→PV→Prop}{agg:Bool}{sz off:Nat}(hi:a1s P t=some agg)(hs:H8 P t=some sz)(hc:a7D R w b o cs)(hk:a1Z agg sz cs off=some r):
 ∃v,(Instr.loadAt t (.pointer (some ⟨b,o+off,none⟩))).run P w=.ok v w∧(agg=false→R off v r∧cs[off]?=some r)∧(agg=true→∃vs,v=.agg vs∧r=.agg ((cs.drop off).take sz)∧(vs.size=sz∧∀(j:Nat) c,((cs.drop off).take sz)[j]?=some c→∃u,vs[j]?=some u∧R (off+j) u c)∧((cs.drop off).take sz).length=sz):=by
 cases agg with
 |false=>
  simp only[a1Z,a3W,if_false]at hk;obtain⟨u,h1,h2⟩:=hc off r hk;exact⟨u,c5a hi h1,fun _=>⟨h2,hk⟩,fun e=>by cases e⟩
 |true=>
  simp only[a1Z,if_true]at hk;split at hk
  . rename_i hle;cases hk;have hlen:((cs.drop off).take sz).length=sz:=I3;have hall:∀j,j<sz→∃u,w.cell? ⟨b,o+off+j,none⟩=some u∧∃c,((cs.drop off).take sz)[j]?=some c∧R (off+j) u c:=fun j hj=>by
     obtain⟨c,hc'⟩:∃c,cs[off+j]?=some c:=⟨cs[off+j],l9 i9⟩
     obtain⟨u,h1,h2⟩:=hc (off+j) c hc';refine⟨u,by rw[Nat.add_assoc];exact h1,c,?_,h2⟩;rw[a0O,if_pos hj,a3s];exact hc'
    have hr:=c6r (P:=P) (w:=w) (t:=t) (b:=b) (o:=o+off) hi hs (fun j=>(w.cell? ⟨b,o+off+j,none⟩).getD undef) (fun j hj=>by obtain⟨u,h1,_⟩:=hall j hj;rw[h1];rfl);refine⟨_,hr,fun e=>absurd e k7,fun _=>⟨_,rfl,rfl,⟨k7,fun j c hj=>?_⟩,hlen⟩⟩;have hjs:j<sz:=(by grind);obtain⟨u,h1,c',h2,h3⟩:=hall j hjs;rw[h2]at hj;cases hj;refine⟨u,?_,h3⟩;simp[hjs,h1]
  . cases hk
end
end
section
variable{t e:TypeId}{p q:PV}{z f b l:Nat}{v:Value}{n:Int}{lo hi mx:Option Value}{plo phi pmx:Option PV}{k:IntKind}
section
variable{P:Program}{B:Nat}{Z0:Nat→Prop}{G:Gh}{h:l5}{w:World}
theorem a1h{s:Nat}(hs:H8 P t=some s):∃i,P.info? t=some i∧i.size=s:=C5.1 hs
theorem b5a{fd:Field}(hs:a8o P t f=some fd):∃fs,P.underlying t=some (.struct fs)∧fs[f]?=some fd:=by
 unfold a8o at hs
 grind
theorem b3s(hs:a3E P t=some e):P.underlying t=some (.slice e):=by
 unfold a3E at hs
 grind
theorem b3j{off:Nat}(hv:j8 G h w D v p)(hk:a4s off p=some q):∃b o,v=.pointer (some ⟨b,o,none⟩)∧j8 G h w D (.pointer (some ⟨b,o+off,none⟩)) q:=by
 cases p<;>(try (simp[a4s]at hk;done))
 case ptr k g o=>
  simp only[a4s,p9]at hk;subst hk;unfold D at hv⊢;unfold j8 at hv⊢;obtain⟨b,rfl,gn,ob,h1,h2,h3⟩:=hv;exact⟨b,o,rfl,b,rfl,gn,ob,h1,h2,h3⟩
 case eptr k g gl s i j=>
  simp only[a4s,p9]at hk;subst hk;unfold D at hv⊢;unfold j8 at hv⊢;obtain⟨b,f,rfl,gn,ob,h1,h2,h3⟩:=hv;refine⟨b,f,rfl,b,f+off,rfl,gn,ob,h1,h2,fun e sz ver fr es e2=>?_⟩;obtain⟨h4,h5⟩:=h3 e sz ver fr es e2;refine⟨h4,fun e3=>?_⟩;obtain⟨h6,h7,h8⟩:=h5 e3;exact⟨h6,fun e4=>by rw[h7 e4];omega,h8⟩
 case nptr k g ver s i j m l=>
  simp only[a4s,p9]at hk;subst hk;unfold D at hv⊢;unfold j8 at hv⊢;obtain⟨b,f,rfl,gn,ob,h1,h2,h3⟩:=hv;refine⟨b,f,rfl,b,f+off,rfl,gn,ob,h1,h2,fun e sz vr fr es e2=>?_⟩;obtain⟨h4,h5⟩:=h3 e sz vr fr es e2;refine⟨h4,fun e3=>?_⟩;obtain⟨ns,hc,h6,h7,h8⟩:=h5 e3;exact⟨ns,hc,h6,fun e4=>by rw[h7 e4];omega,h8⟩
 case fptr cs=>
  simp only[a4s]at hk;split at hk
  . cases hk;unfold D at hv⊢;unfold j8 at hv⊢;obtain⟨b,o,rfl,h1,h2⟩:=PR.a3a.1 hv;refine⟨b,o,rfl,PR.a3a.2 ⟨b,o+off,rfl,h1,fun j c hc=>?_⟩⟩
    grind
  . cases hk
theorem c4B{s:TypeId}{fd:Field}{o:Nat}(h1:a8o P s f=some fd)(h2:H8 P fd.type=some z)(h3:z≠0):
 (Instr.fieldAt s (.pointer (some ⟨b,o,none⟩)) f).run P w=.ok (.pointer (some ⟨b,o+fd.offset,none⟩)) w:=by
 obtain⟨fs,hu,hf⟩:=b5a h1;obtain⟨i,hi,rfl⟩:=a1h h2;simp[Instr.fieldAt,run_underlying hu,hf,Instr.sureAddr,fieldPlace,sizeOf,typeInfo,hi,h3,Addr.add_lit]
theorem b0B{c:Nat}(hu:P.underlying t=some (.slice e))(hz:H8 P e=some z)(h0:0≤n)(hl:n<l):
 (Instr.indexAt t (.slice (some ⟨b,f,none⟩) l c) (.int k n)).run P w=.ok (.pointer (some ⟨b,f+n.toNat*z,none⟩)) w:=by
 obtain⟨i,hi,rfl⟩:=a1h hz;simp[Instr.indexAt,run_underlying hu,asIntOf,sizeOf,typeInfo,hi,h0,hl,Addr.add_lit]
theorem c6c{m:Nat}(hu:P.underlying t=some (.array m e))(hz:H8 P e=some z)(h0:0≤n)(hl:n<m):
 (Instr.indexAt t (.pointer (some ⟨b,f,none⟩)) (.int k n)).run P w=.ok (.pointer (some ⟨b,f+n.toNat*z,none⟩)) w:=by
 obtain⟨i,hi,rfl⟩:=a1h hz;simp[Instr.indexAt,run_underlying hu,asIntOf,Instr.sureAddr,sizeOf,typeInfo,hi,h0,hl,Addr.add_lit]
theorem c4P(hu:P.underlying t=some (.slice e))(hz:H8 P e=some z)(hv:j8 G h w D v p)(hk:b0G z p n=some q):
 ∃u,(Instr.indexAt t v (.int k n)).run P w=.ok u w∧j8 G h w D u q:=by
 unfold b0G at hk;split at hk
 . rename_i h0;cases p<;>(try (simp at hk;done))
   case slc es=>
    simp only[]at hk;split at hk
    . rename_i e' he;split at hk
      . rename_i hl;cases hk;have hp:=a2M hv;obtain⟨a,c,sz,rfl,h2,h3,h4,h5⟩:=PR.U2.1 hp;obtain⟨h6,b,o,rfl,h8,h9⟩:=h5 _ _ he;have hlt:n<es.length:=(by grind);refine⟨_,b0B hu hz h0 hlt,?_⟩;refine a4P (PR.a3a.2 ⟨b,_,rfl,h8,fun j c hc=>?_⟩);obtain⟨h10,u,h11,h12⟩:=h9 j c hc;refine⟨h10,u,?_,h12⟩;rw[Nat.add_assoc,show z=sz by omega];exact h11
      . cases hk
    . cases hk
   case own k2 g gl s o l=>
    simp only[]at hk;split at hk
    . rename_i hl;obtain⟨hl,rfl⟩:=hl;cases hk;unfold D at hv;unfold j8 at hv;obtain⟨a,c,rfl,h1,h2,h3,gn,ob,h4,h5,h6⟩:=hv;rcases h3 with⟨rfl,rfl⟩|⟨b,f,rfl⟩
      . omega
      refine⟨_,b0B hu hz h0 hl,?_⟩;unfold D;unfold j8;refine⟨b,_,rfl,gn,ob,h4,h5,fun e1 sz ver fr es e2=>?_⟩;obtain⟨h7,h8⟩:=h6 e1 sz ver fr es e2;refine⟨h7,fun e3=>?_⟩;obtain⟨h9,h10,h11⟩:=h8 e3;by_cases hR:G.R (root k2)
      . grind
      . obtain⟨e4,_⟩:=h11 hR;cases e4
    . cases hk
   case nown k2 g ver ei ej o l=>
    simp only[]at hk;split at hk
    . rename_i hl;cases hk;unfold D at hv;unfold j8 at hv;obtain⟨a,c,rfl,h1,h2,h3,gn,ob,h4,h5,h6⟩:=hv;rcases h3 with⟨rfl,rfl⟩|⟨b,f,rfl⟩
      . omega
      refine⟨_,b0B hu hz h0 hl,?_⟩;unfold D;unfold j8;refine⟨b,_,rfl,gn,ob,h4,h5,fun e1 sz vr fr es e2=>?_⟩;obtain⟨h7,h8⟩:=h6 e1 sz vr fr es e2;refine⟨h7,fun e3=>?_⟩;obtain⟨ns,hc,h9,h10,h11⟩:=h8 e3;by_cases hR:G.R (nest k2 ei ej)
      . obtain⟨f',e4,h12⟩:=h10 hR;cases e4;refine⟨ns,hc,rfl,fun e5=>?_,i9⟩;rcases h12 with h12|h12
        . omega
        . grind
      . obtain⟨e4,_⟩:=h11 hR;cases e4
    . cases hk
   case vsl k2 g o s l=>
    simp only[]at hk;split at hk
    . rename_i hl;obtain⟨hl,rfl⟩:=hl;cases hk;unfold D at hv;unfold j8 at hv;obtain⟨b,f,c,rfl,h1,h2,h3,gn,ob,h4,h5,h6⟩:=hv;refine⟨_,b0B hu hz h0 hl,?_⟩;unfold D;unfold j8;exact⟨b,by rw[h3.resolve_left i9],gn,ob,h4,h5,h6⟩
    . cases hk
 . cases hk
theorem b6U{ty:TypeId}{n:Nat}{st:Bool}(hu:if st then P.underlying t=some .string else∃e,P.underlying t=some (.slice e))(hv:j8 G h w D v p)(hk:b0j st p=some n):
 (Builtin.len_ #[t] ty #[v]).run P w=.ok (.int .i64 n) w:=by
 unfold b0j at hk;split at hk
 . cases hk
 rename_i hst;cases p<;>(try (simp at hk;done))<;>simp only[p9]at hk<;>subst hk
 case str s=>
  obtain rfl:=a2q hv;obtain rfl:st=true:=by simpa[isStr]using hst
  simp at hu;simp[Builtin.len_,run_underlying hu,goInt]
 all_goals
  obtain rfl:st=false:=by simpa[isStr]using hst
  simp at hu;obtain⟨e,he⟩:=hu
 case slc es=>
  have hp:=a2M hv;obtain⟨a,c,sz,rfl,_⟩:=PR.U2.1 hp;simp[Builtin.len_,run_underlying he,goInt]
 case nils=>obtain rfl:=Z7 hv;simp[Builtin.len_,run_underlying he,goInt]
 case lst=>unfold D at hv;unfold j8 at hv;obtain⟨a,c,rfl,_⟩:=hv;simp[Builtin.len_,run_underlying he,goInt]
 case ne=>unfold D at hv;unfold j8 at hv;obtain⟨b,o,rfl⟩:=hv;simp[Builtin.len_,run_underlying he,goInt]
 case own=>unfold D at hv;unfold j8 at hv;obtain⟨a,c,rfl,_⟩:=hv;simp[Builtin.len_,run_underlying he,goInt]
 case vsl=>unfold D at hv;unfold j8 at hv;obtain⟨b,f,c,rfl,_⟩:=hv;simp[Builtin.len_,run_underlying he,goInt]
 case nown=>unfold D at hv;unfold j8 at hv;obtain⟨a,c,rfl,_⟩:=hv;simp[Builtin.len_,run_underlying he,goInt]
theorem b1Z(hk:asInt p=some n):∃k,p=.int k n:=by cases p<;>simp[asInt]at hk;subst hk;exact⟨_,rfl⟩
def OV(G:Gh)(h:l5)(w:World):Option Value→Option PV→Prop
 |none,none=>True
 |some v,some p=>j8 G h w D v p
 |_,_=>False
theorem b1E{isS:Bool}{n cap:Nat}{u:Nat}(hn:n≤cap)(h1:OV G h w lo plo)(h2:OV G h w hi phi)(h3:OV G h w mx pmx)(hk:sliceB n plo phi pmx=some (l,u)):
 (Instr.sliceBounds isS n cap lo hi mx).run P w=.ok (l,u,if pmx.isSome then u else cap) w∧l≤u∧u≤n:=by
 unfold sliceB at hk;split at hk
 . rename_i hh ll eh el;split at hk
   . rename_i hb;obtain⟨b1,b2,b3⟩:=hb;have hlo:∀(code:BoundsCode),(match lo with|some v=>Instr.sliceBound v hh.toNat code|none=>pure 0:Sem Nat).run P w=.ok ll.toNat w:=fun code=>by
      cases plo with
      |none=>cases lo with
       |none=>simp at el;subst el;rfl
       |some v=>exact h1.elim
      |some p=>cases lo with
       |none=>exact h1.elim
       |some v=>
        obtain⟨k,rfl⟩:=b1Z el;obtain rfl:=V0 h1;have:¬(max hh 0<ll):=i9;simp[Instr.sliceBound,asIntOf,b1,this]
        try omega
     have hhi:∀(y:Nat) (code:BoundsCode),n≤y∨hh≤y→(match hi with|some v=>Instr.sliceBound v y code|none=>pure n:Sem Nat).run P w=.ok hh.toNat w:=fun y code hy=>by
      cases phi with
      |none=>cases hi with
       |none=>simp at eh;subst eh;simp
       |some v=>exact h2.elim
      |some p=>cases hi with
       |none=>exact h2.elim
       |some v=>
        obtain⟨k,rfl⟩:=b1Z eh;obtain rfl:=V0 h2;have c1:0≤hh:=i9;have c2:hh≤(y:Int):=i9;simp[Instr.sliceBound,asIntOf,c1,c2]
     cases pmx with
     |none=>
      simp only[p9,s6]at hk;obtain⟨rfl,rfl⟩:=hk;cases mx with
      |some v=>exact h3.elim
      |none=>
       refine⟨?_,i9,i9⟩;have e1:=hhi cap (if isS then .sliceAcap else .sliceAlen) (.inl hn);have e2:=hlo .sliceB;unfold Instr.sliceBounds;simp only[N8,a1E,Q8];cases hi with
       |none=>simp at e1;simp[←e1];cases lo with
        |none=>simp at e2;simp[←e2]
        |some v=>simp at e2;simp[e1,e2]
       |some x=>simp at e1;simp[e1];cases lo with
        |none=>simp at e2;simp[←e2]
        |some v=>simp at e2;simp[e2]
     |some p=>
      simp only at hk;split at hk
      . rename_i hm;obtain⟨m1,m2⟩:=hm;simp only[p9,s6]at hk;obtain⟨rfl,rfl⟩:=hk;cases mx with
        |none=>exact h3.elim
        |some v=>
         obtain⟨k,rfl⟩:=b1Z m2;obtain rfl:=V0 h3;have c1:0≤hh:=i9;have c2:hh≤(cap:Int):=i9;refine⟨?_,i9,i9⟩;have e1:=hhi hh.toNat .slice3B (.inr i9);have e2:=hlo .slice3C;cases phi with
         |none=>simp at m1
         |some q=>cases hi with
          |none=>exact h2.elim
          |some x=>
           unfold Instr.sliceBounds;simp at e1;have e3:∀code,(Instr.sliceBound (.int k hh) cap code).run P w=.ok hh.toNat w:=fun code=>(by simp[Instr.sliceBound,asIntOf,c1,c2]);simp[e3,e1];cases lo with
           |none=>simp at e2;simp[←e2]
           |some v=>simp at e2;simp[e2]
      . cases hk
   . cases hk
 . cases hk
theorem a8t{n cap:Nat}{a:Option Addr}{u:Nat}(hu:P.underlying t=some (.slice e))(hz:H8 P e=some z)(hn:n≤cap)
 (h1:OV G h w lo plo) (h2:OV G h w hi phi) (h3:OV G h w mx pmx) (hk:sliceB n plo phi pmx=some (l,u)):
 (Instr.sliceAt t (.slice a n cap) lo hi mx).run P w=.ok (.slice (if(if pmx.isSome then u else cap)=l then a else a.map (·.add (l*z))) (u-l) ((if pmx.isSome then u else cap)-l)) w∧l≤u∧u≤n:=by
 obtain⟨i,hi',rfl⟩:=a1h hz;obtain⟨hb,hl,hu'⟩:=b1E (P:=P) (isS:=true) hn h1 h2 h3 hk;refine⟨?_,hl,hu'⟩;simp[Instr.sliceAt,Instr.slice,run_underlying hu,hb,sizeOf,typeInfo,hi']
theorem c5T(hu:P.underlying t=some (.slice e))(hz:H8 P e=some z)(hv:j8 G h w D v p)
 (h1:OV G h w lo plo) (h2:OV G h w hi phi) (h3:OV G h w mx pmx) (hk:a6G false z p plo phi pmx=some q):
 ∃u,(Instr.sliceAt t v lo hi mx).run P w=.ok u w∧j8 G h w D u q:=by
 unfold a6G at hk;split at hk
 . cases hk
 rename_i hst;cases p<;>(try (simp at hk;done))<;>simp only[]at hk
 case str s=>simp[isStr]at hst
 case slc es=>
  have hp:=a2M hv;obtain⟨a,c,sz,rfl,q2,q3,q4,q5⟩:=PR.U2.1 hp;split at hk
  . rename_i l u hb;split at hk
    . rename_i hsz;cases hk;obtain⟨hr,b1,b2⟩:=a8t (P:=P) (a:=a) hu hz q2 h1 h2 h3 hb;refine⟨_,hr,a1d ?_⟩;have hlen:((es.drop l).take (u-l)).length=u-l:=I3;refine PR.U2.2 ⟨_,_,sz,by rw[hlen],?_,?_,?_,fun i e' he=>?_⟩
      . rw[hlen];split<;>omega
      . split<;>omega
      . intro hnone;cases a with
        |none=>have:=q4 rfl;split<;>omega
        |some a=>
         by_cases hml:(if pmx.isSome then u else c)=l
         . rw[hml];omega
         . grind
      . have hi2:i<u-l:=(by rw[←hlen];exact(B4.1 he).1);rw[a0O,if_pos hi2,a3s]at he;obtain⟨h6,b,o,rfl,h8,h9⟩:=q5 _ _ he;refine⟨h6,b,o+l*z,?_,h8,fun j c' hc=>?_⟩
        . have:¬((if pmx.isSome then u else c)=l):=(by split<;>omega);rw[if_neg this];simp[Addr.add_lit]
        . obtain⟨h10,v',h11,h12⟩:=h9 j c' hc;refine⟨h10,v',?_,h12⟩;have:l*z=l*sz:=by
           rcases hsz with rfl|hsz
           . simp
           . have:=A8.1 hsz e' (C8 he);have:(l6 e').length=z:=(by simpa using this);rw[←this,h6]
          rw[this,Nat.add_assoc,←Nat.add_assoc (l*sz),←Q9];exact h11
    . cases hk
  . cases hk
 case own k2 g gl s o n=>
  split at hk
  . rename_i hmx;split at hk
    . rename_i l u hb;split at hk
      . rename_i hc;obtain⟨rfl,rfl,rfl,rfl⟩:=hc;cases hk;unfold D at hv;unfold j8 at hv;obtain⟨a,c,rfl,q2,q3,q4,gn,ob,h4,h5,h6⟩:=hv;obtain⟨hr,b1,b2⟩:=a8t (P:=P) (a:=a) hu hz q2 h1 h2 h3 hb;simp only[hmx,if_true,Nat.sub_zero]at hr;have ea:(if u=0 then a else a.map (·.add (0*z)))=a:=by
         by_cases hu0:u=0
         . rw[if_pos hu0]
         . rw[if_neg hu0];rcases q4 with⟨rfl,_⟩|⟨b,f,rfl⟩
           . rfl
           . simp[Addr.add_lit]
        rw[ea]at hr;refine⟨_,hr,?_⟩;unfold D;unfold j8;refine⟨a,u,rfl,m0 _,i9,?_,gn,ob,h4,h5,fun e1 sz ver fr es e2=>?_⟩
        . grind
        . grind
      . cases hk
    . cases hk
  . rename_i hmx;obtain rfl:pmx=none:=(by cases pmx<;>simp at hmx;rfl);split at hk
    . rename_i l u hb;split at hk
      . rename_i hzs;subst hzs;cases hk;unfold D at hv;unfold j8 at hv;obtain⟨a,c,rfl,q2,q3,q4,gn,ob,h4,h5,h6⟩:=hv;obtain⟨hr,b1,b2⟩:=a8t (P:=P) (a:=a) hu hz q2 h1 h2 h3 hb;refine⟨_,hr,?_⟩;simp only[Option.isSome_none,a3W,if_false];unfold D;unfold j8;refine⟨_,_,rfl,i9,i9,?_,gn,ob,h4,h5,fun e1 sz ver fr es e2=>?_⟩
        . rcases q4 with⟨rfl,rfl⟩|⟨b,f,rfl⟩
          . exact .inl ⟨k7,i9⟩
          . refine .inr ?_;split
            . exact⟨b,f,rfl⟩
            . exact⟨b,f+l*z,by simp[Addr.add_lit]⟩
        . obtain⟨h7,h8⟩:=h6 e1 sz ver fr es e2;refine⟨h7,fun e3=>?_⟩;obtain⟨h9,h10,h11⟩:=h8 e3;refine⟨i9,fun hR=>?_,fun hR=>?_⟩
          . obtain⟨f,rfl,h12,h13,h14⟩:=h10 hR;by_cases hcl:c=l
            . grind
            . refine⟨f+l*z,by rw[if_neg hcl];simp[Addr.add_lit],.inr fun e5=>?_,i9,i9⟩;rcases h12 with h12|h12
              . omega
              . rw[h12 e5,Q9]
          . grind
      . cases hk
    . cases hk
 case nown k2 g ver i j o n=>
  split at hk
  . cases hk
  . rename_i hmx;obtain rfl:pmx=none:=(by cases pmx<;>simp at hmx;rfl);split at hk
    . rename_i l u hb;split at hk
      . rename_i hl0;subst hl0;cases hk;unfold D at hv;unfold j8 at hv;obtain⟨a,c,rfl,q2,q3,q4,gn,ob,h4,h5,h6⟩:=hv;obtain⟨hr,b1,b2⟩:=a8t (P:=P) (a:=a) hu hz q2 h1 h2 h3 hb;refine⟨_,hr,?_⟩;simp only[Option.isSome_none,a3W,if_false];have ha:(if c=0 then a else a.map (·.add (0*z)))=a:=by
         split
         . rfl
         . rcases q4 with⟨rfl,rfl⟩|⟨b,f,rfl⟩
           . rfl
           . simp[Addr.add_lit]
        rw[ha];unfold D;unfold j8;refine⟨a,c-0,rfl,i9,i9,?_,gn,ob,h4,h5,fun e1 sz vr fr es e2=>?_⟩
        . rw[Nat.sub_zero];exact q4
        . grind
      . cases hk
    . cases hk
 case nils=>
  split at hk
  . rename_i x hb;obtain⟨l,u⟩:=x;cases hk;obtain rfl:=Z7 hv;obtain⟨hr,b1,b2⟩:=a8t (P:=P) (a:=none) hu hz (m0 0) h1 h2 h3 hb;refine⟨_,hr,?_⟩;obtain rfl:u=0:=i9;obtain rfl:l=0:=i9;simp;exact a4W
  . cases hk
theorem c4y(hu:P.underlying t=some .string)(hv:j8 G h w D v p)
 (h1:OV G h w lo plo) (h2:OV G h w hi phi) (h3:OV G h w mx pmx) (hk:a6G true 0 p plo phi pmx=some q):
 ∃u,(Instr.sliceAt t v lo hi mx).run P w=.ok u w∧j8 G h w D u q:=by
 unfold a6G at hk;split at hk
 . cases hk
 rename_i hst;cases p<;>(try (simp[isStr]at hst;done))<;>simp only[]at hk
 case str s=>
  split at hk
  . cases hk
  . rename_i hmx;obtain rfl:pmx=none:=(by cases pmx<;>simp at hmx;rfl);obtain rfl:mx=none:=(by cases mx<;>simp[OV]at h3;rfl);split at hk
    . rename_i l u hb;cases hk;obtain rfl:=a2q hv;obtain⟨hb,b1,b2⟩:=b1E (P:=P) (isS:=false) (m0 s.size) h1 h2 h3 hb;refine⟨_,?_,a4J⟩;simp[Instr.sliceAt,Instr.slice,run_underlying hu,hb]
    . cases hk
end
end
section
variable{i sz k g:Nat}{es:List PV}
theorem T9{h:l5}{hide:List Nat}{ob:Ob}(hk:l8 h hide k=(g,ob))(hd:ob≠ .dead):h[k]?=some (g,ob):=by
 unfold l8 at hk;split at hk
 . grind
 . grind
theorem c1b(k g ver i:Nat):∀(cs:List PV) (j t:Nat),(a4u k g ver i j cs)[t]?=(cs[t]?).map (ldC k g ver i (j+t))
 | [],j,t=>by simp[a4u]
 |c::cs,j,0=>by simp[a4u]
 |c::cs,j,t+1=>by simp[a4u,c1b k g ver i cs (j+1) t];rw[show j+(t+1)=j+1+t by omega]
theorem b9p(k g ver i:Nat):∀(cs:List PV) (j:Nat),(a4u k g ver i j cs).length=cs.length
 | [],j=>by simp[a4u]
 |c::cs,j=>by simp[a4u,b9p k g ver i cs (j+1)]
section
variable{P:Program}{B:Nat}{Z0:Nat→Prop}{G:Gh}{h:l5}{w:World}
theorem a0U{b:Nat}{us:Array Value}{T:TypeId}(hb:w.heap[b]?=some (.cells us T (0,0))):w.cell? ⟨b,i,none⟩=us[i]?:=by unfold World.cell?;simp only[hb];rfl
theorem b9C{ver j:Nat}{fr:Bool}{u:Value}{c:PV}(hh:h[k]?=some (g,.arr sz ver fr es))(hcell:cellAt es i j=some c)(hc:F9 G h w k i j u c):j8 G h w D u (ldC k g ver i j c)∧one (ldC k g ver i j c)=true:=by
 cases c
 case uslc ns=>
  unfold F9 N7 at hc;refine⟨?_,rfl⟩;simp only[ldC];unfold D;unfold j8;by_cases hR:G.R (nest k i j)
  . grind
  . grind
 all_goals (unfold F9 at hc;exact⟨by simpa[ldC]using hc.2,by simpa[ldC]using hc.1⟩)
theorem a9n{R:Nat→Value→PV→Prop}{vs:Array Value}{cs:List PV}{o:Nat}(hl:cs.length=sz)(hv:vs.size=sz∧∀(j:Nat) c,cs[j]?=some c→∃u,vs[j]?=some u∧R (o+j) u c)
 (hr:∀j u c,cs[j]?=some c→R (o+j) u c→one c=true∧j8 G h w D u c):j8 G h w D (.agg vs) (.agg cs):=by
 refine a6l ⟨by rw[hv.1,hl],fun i c hc=>?_⟩;obtain⟨u,h1,h2⟩:=hv.2 i c hc;obtain⟨h3,h4⟩:=hr i u c hc h2;exact⟨u,h1,one_cell h3 h4⟩
theorem a3n(hr:p7 B Z0 G h w){ver:Nat}{fr:Bool}{e:PV}(hh:h[k]?=some (g,.arr sz ver fr es))(he:es[i]?=some e):
 G.R (root k)∧∃us T,w.heap[G.β (root k)]?=some (.cells us T (0,0))∧us.size=G.γ (root k)*sz∧(l6 e).length=sz∧∀(j:Nat) c,(l6 e)[j]?=some c→∃u,us[i*sz+j]?=some u∧F9 G h w k i j u c:=by
 have ho:=hr.ob k g _ hh;unfold E5 at ho;obtain⟨_,_,_,h4,h5⟩:=ho;by_cases hR:G.R (root k)
 . grind
 . rw[h5 hR]at he;simp at he
theorem a4w{j:Nat}{e c:PV}(he:es[i]?=some e)(hc:(l6 e)[j]?=some c):cellAt es i j=some c:=by simp[cellAt,he,hc]
theorem a8V(hr:p7 B Z0 G h w){hide:List Nat}{t:TypeId}{agg:Bool}{v:Value}{p r:PV}(hi:a1s P t=some agg)(hs:H8 P t=some sz)(hv:j8 G h w D v p)(hk:a0j (l8 h hide) agg sz p=some r):
 ∃u,(Instr.loadAt t v).run P w=.ok u w∧j8 G h w D u r:=by
 cases p<;>(try (simp[a0j]at hk;done))
 case ptr k g o=>
  simp only[a0j]at hk;split at hk
  . rename_i g' cs hlk;split at hk
    . rename_i hg;subst hg;have hh:=T9 hlk k7;unfold D at hv;unfold j8 at hv;obtain⟨b,rfl,gn,ob,h1,h2,h3⟩:=hv;rw[hh]at h1;cases h1;obtain rfl:=h3 rfl cs rfl;have ho:=hr.ob k _ _ hh;unfold E5 at ho;obtain⟨hR,us,T,h4,h5⟩:=ho;have hcs:a7D (fun _ v c=>one c=true∧j8 G h w D v c) w (G.β (root k)) 0 cs:=fun j c hc=>by
       obtain⟨u,h6,h7⟩:=h5.2 j c hc;exact⟨u,by rw[a0U h4,U3];exact h6,h7⟩
      obtain⟨u,h6,h7,h8⟩:=a7C (P:=P) hi hs hcs hk;rw[U3]at h6;refine⟨u,h6,?_⟩;cases agg with
      |false=>exact(h7 rfl).1.2
      |true=>
       obtain⟨vs,rfl,rfl,h9,h10⟩:=h8 rfl;exact a9n (o:=o) (R:=fun _ v c=>one c=true∧j8 G h w D v c) h10 h9 fun _ _ _ _ x=>x
    . cases hk
  . cases hk
 case eptr k g gl s i j=>
  simp only[a0j]at hk;split at hk
  . rename_i g' s' ver fr es hlk;split at hk
    . rename_i hg;obtain⟨rfl,hgl,rfl⟩:=hg;split at hk
      . rename_i e he;have hh:=T9 hlk k7;unfold D at hv;unfold j8 at hv;obtain⟨b,f,rfl,gn,ob,h1,h2,h3⟩:=hv;rw[hh]at h1;cases h1;obtain⟨_,h3⟩:=h3 rfl _ _ _ _ rfl;obtain⟨rfl,h4,_⟩:=h3 hgl;have hf:=h4 rfl;obtain⟨hR,us,T,h5,h6,h7,h8⟩:=a3n hr hh he;have hcs:a7D (fun j v c=>F9 G h w k i j v c) w (G.β (root k)) (i*s') (l6 e):=fun j c hc=>by
         obtain⟨u,h9,h10⟩:=h8 j c hc;exact⟨u,by rw[a0U h5];exact h9,h10⟩
        split at hk
        . rename_i cs htk;split at hk
          . rename_i hag;subst hag;cases hk;obtain⟨u,h9,_,h11⟩:=a7C (P:=P) hi hs hcs htk;obtain⟨vs,rfl,hcs2,h12,h13⟩:=h11 rfl;cases hcs2;refine⟨_,by rw[hf];exact h9,?_⟩;refine a9n (o:=j) (sz:=sz) (R:=fun jj u c=>j8 G h w D u c∧one c=true) ?_ ⟨h12.1,fun t c hc=>?_⟩ fun _ _ _ _ x=>⟨x.2,x.1⟩
            . rw[b9p];exact h13
            . rw[c1b]at hc;obtain⟨c0,hc0,rfl⟩:=C5.1 hc;obtain⟨u,h14,h15⟩:=h12.2 t c0 hc0;refine⟨u,h14,?_⟩;rw[a0O]at hc0;split at hc0
              . rw[a3s]at hc0;exact b9C hh (a4w he hc0) h15
              . cases hc0
          . cases hk
        . rename_i c hna htk;cases hk;obtain⟨u,h9,h10,h11⟩:=a7C (P:=P) hi hs hcs htk;cases agg with
          |true=>obtain⟨vs,_,hcs2,_⟩:=h11 rfl;exact absurd hcs2 (hna _)
          |false=>
           obtain⟨h12,h13⟩:=h10 rfl;exact⟨u,by rw[hf];exact h9,(b9C hh (a4w he h13) h12).1⟩
        . cases hk
      . cases hk
    . cases hk
  . cases hk
 case nptr k g ver s i j m l=>
  simp only[a0j]at hk;split at hk
  . rename_i g' sz0 ver' fr es hlk;split at hk
    . rename_i hg;obtain⟨rfl,rfl⟩:=hg;split at hk
      . rename_i e he;split at hk
        . rename_i ns hns;split at hk
          . rename_i x hx;split at hk
            . rename_i hxs;have hh:=T9 hlk k7;unfold D at hv;unfold j8 at hv;obtain⟨b,f,rfl,gn,ob,h1,h2,h3⟩:=hv;rw[hh]at h1;cases h1;obtain⟨_,h3⟩:=h3 rfl _ _ _ _ rfl;obtain⟨ns',hns',rfl,h4,hml⟩:=h3 rfl;rw[a4w he hns]at hns';cases hns';obtain⟨hR,us,T,h5,h6,h7,h8⟩:=a3n hr hh he;obtain⟨u0,h9,h10⟩:=h8 j _ hns;unfold F9 N7 at h10;have hRn:G.R (nest k i j):=(by grind);obtain⟨us2,T2,ff,cc,rfl,h10',h11,h12,h12',h13,h14,h15,h16⟩:=h10.1 hRn;obtain⟨h17,h18⟩:=h16 m x hx;have hf:=h4 (by rw[←h17,hxs]);have hcs:a7D (fun _ v c=>one c=true∧PR G.Z w v c) w (G.β (nest k i j)) (m*s) (l6 x):=fun t c hc=>by
               obtain⟨h19,u,h20,h21⟩:=h18 t c hc;exact⟨u,by rw[a0U h13,←hxs,h17];exact h20,h19,h21⟩
              obtain⟨u,h19,h20,h21⟩:=a7C (P:=P) hi hs hcs hk;refine⟨u,by rw[hf];exact h19,?_⟩;cases agg with
              |false=>exact a1y (h20 rfl).1.1 (h20 rfl).1.2
              |true=>
               obtain⟨vs,rfl,rfl,h22,h23⟩:=h21 rfl;exact a9n (o:=l) (R:=fun _ v c=>one c=true∧PR G.Z w v c) h23 h22 fun _ _ _ _ x=>⟨x.1,a1y x.1 x.2⟩
            . cases hk
          . cases hk
        . cases hk
      . cases hk
    . cases hk
  . cases hk
 case fptr cs=>
  simp only[a0j]at hk;unfold D at hv;unfold j8 at hv;obtain⟨b,o,rfl,hz,h1⟩:=PR.a3a.1 hv;have hcs:a7D (fun _ v c=>one c=true∧PR G.Z w v c) w b o cs:=fun j c hc=>by obtain⟨h2,u,h3,h4⟩:=h1 j c hc;exact⟨u,h3,h2,h4⟩
  obtain⟨u,h2,h3,h4⟩:=a7C (P:=P) hi hs hcs hk;rw[a3t]at h2;refine⟨u,h2,?_⟩;cases agg with
  |false=>exact a1y (h3 rfl).1.1 (h3 rfl).1.2
  |true=>
   obtain⟨vs,rfl,rfl,h5,h6⟩:=h4 rfl;exact a9n (o:=0) (R:=fun _ v c=>one c=true∧PR G.Z w v c) h6 h5 fun _ _ _ _ x=>⟨x.1,a1y x.1 x.2⟩
end
end
section
variable{v:Value}{p:PV}{t:TypeId}
theorem a9i:∀(ds cs:List PV) (off:Nat),off+ds.length≤cs.length→(a1S cs off ds).length=cs.length∧∀t,(a1S cs off ds)[t]?=if off≤t∧t<off+ds.length then ds[t-off]? else cs[t]?
 | [],cs,off,_=>⟨rfl,fun t=>by rw[if_neg k7];rfl⟩
 |d::ds,cs,off,h=>by
  simp only[Z3]at h;obtain⟨h1,h2⟩:=a9i ds (cs.set off d) (off+1) I3;refine⟨by simp[a1S,h1],fun t=>?_⟩;simp only[a1S,h2,Z3];by_cases ht:t=off
  . grind
  . grind
theorem b8O(off:Nat):∀(vs:List Value) (n:Nat) (A:Array Value),off+n+vs.length≤A.size→
 (((vs.zipIdx n).foldl (fun(cs:Array Value) (x:Value×Nat)=>cs.setIfInBounds (off+x.2) x.1) A).size=A.size∧
  ∀t,((vs.zipIdx n).foldl (fun(cs:Array Value) (x:Value×Nat)=>cs.setIfInBounds (off+x.2) x.1) A)[t]?=if off+n≤t∧t<off+n+vs.length then vs[t-(off+n)]? else A[t]?)
 | [],n,A,_=>⟨rfl,fun t=>by rw[if_neg k7];rfl⟩
 |v::vs,n,A,h=>by
  simp only[Z3]at h;obtain⟨h1,h2⟩:=b8O off vs (n+1) (A.setIfInBounds (off+n) v) I3;simp only[List.zipIdx_cons,a2B];refine⟨by rw[h1];simp,fun t=>?_⟩;rw[h2];simp only[Z3];by_cases ht:t=off+n
  . grind
  . grind
theorem b8v(off:Nat)(V A:Array Value)(h:off+V.size≤A.size):
 (V.zipIdx.foldl (fun(cs:Array Value) (x:Value×Nat)=>cs.setIfInBounds (off+x.2) x.1) A).size=A.size∧
  ∀t,(V.zipIdx.foldl (fun(cs:Array Value) (x:Value×Nat)=>cs.setIfInBounds (off+x.2) x.1) A)[t]?=if off≤t∧t<off+V.size then V[t-off]? else A[t]?:=by
 have:=b8O off V.toList 0 A (by simpa using h);rw[←Array.foldl_toList,Array.toList_zipIdx];simpa using this
section
variable{P:Program}{B:Nat}{Z0:Nat→Prop}{G:Gh}{h:l5}{w:World}
theorem a4R(hv:j8 G h w D v p)(ho:(l6 p).all one=true):I6 (fun u c=>one c=true∧j8 G h w D u c) v.cells (l6 p):=by
 cases p
 case agg cs=>
  obtain⟨vs,rfl,h1,h2⟩:=a4K hv;refine⟨h1,fun i c hc=>?_⟩;obtain⟨u,h3,h4⟩:=h2 i c hc;exact⟨u,h3,A8.1 ho c (C8 hc),h4.up⟩
 case tup|uu|uslc|lst=>simp[l6,one,T6]at ho
 all_goals
  have hc:v.cells= #[v]:=by
   have hv':=hv;unfold D at hv';unfold j8 at hv'
   first
    |exact hv'.2
    |(subst hv';rfl)
    |(obtain⟨rfl,hl⟩:=hv';cases v<;>first|rfl|(simp[a7W]at hl))
    |(obtain⟨a,c,sz,rfl,_⟩:=PR.U2.1 hv';rfl)
    |(obtain⟨b,es,q,rfl,_⟩:=PR.J9 hv';rfl)
    |(obtain⟨b,o,rfl,_⟩:=PR.a3a.1 hv';rfl)
    |(obtain⟨a,c,rfl,_⟩:=hv';rfl)
    |(obtain⟨a,rfl,_⟩:=hv';rfl)
    |(obtain⟨a,f,c,rfl,_⟩:=hv';rfl)
  rw[hc];refine⟨rfl,fun i c hi=>?_⟩;have:i=0:=by have:=(B4.1 hi).1;simp[l6]at this;exact this
  subst this;simp[l6]at hi;subst hi;exact⟨v,rfl,by first|rfl|simpa only[l6,List.all_cons,List.all_nil,Bool.and_true]using ho,hv⟩
theorem a6L{u:Value}{c:PV}(ho:one c=true)(hv:j8 G h w D u c):u.oneCell'=true:=by
 cases c<;>(try (simp[one,T6]at ho;done))<;>
  (unfold D at hv;unfold j8 at hv
   first
    |exact hv.1
    |(subst hv;rfl)
    |(obtain⟨rfl,hl⟩:=hv;cases u<;>first|rfl|(simp[a7W]at hl))
    |(obtain⟨a,c,sz,rfl,_⟩:=PR.U2.1 hv;rfl)
    |(obtain⟨b,es,q,rfl,_⟩:=PR.J9 hv;rfl)
    |(obtain⟨b,o,rfl,_⟩:=PR.a3a.1 hv;rfl)
    |(obtain⟨a,c,rfl,_⟩:=hv;rfl)
    |(obtain⟨a,rfl,_⟩:=hv;rfl)
    |(obtain⟨a,f,c,rfl,_⟩:=hv;rfl))
theorem b9w(hk:ofC v=some p):one p=true∧j8 G h w D v p:=by
 unfold ofC at hk;split at hk<;>(try cases hk)
 . exact⟨rfl,a1l⟩
 . exact⟨rfl,a0z⟩
 . exact⟨rfl,a4J⟩
 . exact⟨rfl,by unfold D;unfold j8;exact⟨rfl,rfl⟩⟩
 . exact⟨rfl,a4W⟩
 . exact⟨rfl,by unfold D;unfold j8;exact⟨rfl,rfl⟩⟩
 . exact⟨rfl,by unfold D;unfold j8;exact⟨rfl,rfl⟩⟩
 . exact⟨rfl,by unfold D;unfold j8;exact⟨rfl,rfl⟩⟩
theorem b8q:∀{l:List Value} {ps:List PV},a9b l=some ps→l.length=ps.length∧ps.all one=true∧∀(i:Nat) c,ps[i]?=some c→∃u,l[i]?=some u∧j8 G h w D u c
 | [],ps,hk=>by simp[a9b]at hk;subst hk;exact⟨rfl,rfl,fun i c hc=>by simp at hc⟩
 |v::l,ps,hk=>by
  simp only[a9b]at hk;split at hk
  . rename_i a b h1 h2;cases hk;obtain⟨h3,h4⟩:=b9w (G:=G) (h:=h) (w:=w) h1;obtain⟨h5,h6,h7⟩:=b8q h2;refine⟨by simp[h5],by simp[h3,h6],fun i c hc=>?_⟩;cases i with
    |zero=>simp at hc;subst hc;exact⟨v,rfl,h4⟩
    |succ i=>exact h7 i c (by simpa using hc)
  . cases hk
theorem a7b(hk:ofV v=some p):j8 G h w D v p∧(l6 p).all one=true:=by
 unfold ofV at hk;split at hk
 . rename_i cs;obtain⟨ps,h1,rfl⟩:=C5.1 hk;obtain⟨h2,h3,h4⟩:=b8q (G:=G) (h:=h) (w:=w) h1;refine⟨a6l ⟨by simpa using h2,fun i c hc=>?_⟩,h3⟩;obtain⟨u,h5,h6⟩:=h4 i c hc;exact⟨u,by simpa using h5,one_cell (A8.1 h3 c (C8 hc)) h6⟩
 . obtain⟨h1,h2⟩:=b9w (G:=G) (h:=h) (w:=w) hk;refine⟨h2,?_⟩;cases p<;>first|(simpa only[l6,List.all_cons,List.all_nil,Bool.and_true]using h1)|(simp[one,T6]at h1)
theorem a4r{z:PV}(hk:a0c P t=some z):∃i v,P.info? t=some i∧i.zero=some v∧ofV v=some z:=by
 unfold a0c at hk;split at hk
 . grind
 . cases hk
theorem a9M{i:TypeInfo}(h1:P.info? t=some i)(h2:i.zero=some v):(zeroValue t).run P w=.ok v w:=by simp[zeroValue,typeInfo,h1,h2]
theorem b7t{agg:Bool}{sz off:Nat}{vs:Array Value}{cs:List PV}{r:PV}(hi:a1s P t=some agg)(hs:H8 P t=some sz)(hv:I6 (j8 G h w 5) vs cs)(hk:a1Z agg sz cs off=some r):
 ∃u,(part t vs off).run P w=.ok u w∧j8 G h w D u r:=by
 obtain⟨i,hi1,rfl⟩:=a1h hs;unfold a1s at hi;cases agg with
 |false=>
  simp only[a1Z,a3W,if_false]at hk;obtain⟨u,h1,h2⟩:=hv.2 off r hk;refine⟨u,?_,h2.up⟩;have:(isAgg t).run P w=.ok false w:=by
   unfold isAgg;split at hi
   . simp at hi
   . simp at hi
   . rename_i d g1 g2 hu;simp only[N8,run_underlying hu,Q8];cases d<;>first|rfl|exact absurd rfl (g1 _)|exact absurd rfl (g2 _ _)
   . simp at hi
  simp[part,this,h1]
 |true=>
  simp only[a1Z,if_true]at hk;split at hk
  . rename_i hle;cases hk;have:(isAgg t).run P w=.ok true w:=by
     unfold isAgg;split at hi
     . rename_i hu;simp[run_underlying hu]
     . rename_i hu;simp[run_underlying hu]
     . simp at hi
     . simp at hi
    refine⟨.agg (vs.extract off (off+i.size)),by simp[part,this,sizeOf,typeInfo,hi1],a6l ⟨?_,fun j c hc=>?_⟩⟩
    . simp[hv.1];omega
    . have hj:j<i.size:=(by have:=(B4.1 hc).1;simp at this;omega);rw[a0O,if_pos hj,a3s]at hc;obtain⟨u,h1,h2⟩:=hv.2 _ c hc;refine⟨u,?_,h2⟩;rw[Array.getElem?_extract,if_pos (by rw[hv.1];omega)];exact h1
  . cases hk
inductive a7r(G:Gh)(h:l5)(w:World)(place:Nat→Option (Nat×Nat)):List (Nat×Value)→List (Nat×Nat×PV)→Prop
 |nil:a7r G h w place [] []
 |cons {i off sz v p l m}:place i=some (off,sz)→j8 G h w D v p→a7r G h w place l m→a7r G h w place ((i,v)::l) ((off,sz,p)::m)
theorem c5j{place:Nat→Option (Nat×Nat)}{R:Value→PV→Prop}(hR:∀u c,one c=true→j8 G h w D u c→R u c){parts:List (Nat×Value)}{xs:List (Nat×Nat×PV)}(hp:a7r G h w place parts xs):∀{A:Array Value} {cs cs':List PV},I6 R A cs→a6n cs xs=some cs'→
 ∃A',Instr.fill place A parts=some A'∧I6 R A' cs':=by
 induction hp with
 |nil=>intro A cs cs' hA hk;simp[a6n]at hk;subst hk;exact⟨A,rfl,hA⟩
 | @cons i off sz v p l m h1 h2 h3 ih=>
  intro A cs cs' hA hk;simp only[a6n]at hk;split at hk
  . rename_i hc;obtain⟨c1,c2,c3⟩:=hc;have hvc:=a4R h2 c3;have hsz:v.cells.size=sz:=(by rw[hvc.1,c1]);obtain⟨s1,s2⟩:=b8v off v.cells A (by rw[hsz,hA.1];exact c2);obtain⟨t1,t2⟩:=a9i (l6 p) cs off i9;have hnew:I6 R (v.cells.zipIdx.foldl (fun(cs:Array Value) (x:Value×Nat)=>cs.setIfInBounds (off+x.2) x.1) A) (a1S cs off (l6 p)):=by
     refine⟨by rw[s1,t1,hA.1],fun t c ht=>?_⟩;rw[t2]at ht;rw[s2];split at ht
     . rename_i hr;rw[if_pos i9];obtain⟨u,g1,g2,g3⟩:=hvc.2 _ c ht;exact⟨u,g1,hR u c g2 g3⟩
     . rename_i hr;rw[if_neg i9];exact hA.2 t c ht
    obtain⟨A',h4,h5⟩:=ih hnew hk;refine⟨A',?_,h5⟩;simp only[Instr.fill,h1];have hcond:(decide (v.cells.size≠sz)||decide (off+v.cells.size>A.size))=false:=by have:=hA.1;simp[hsz];omega
    simp only[hcond,a3W,if_false];exact h4
  . cases hk
end
end
section
variable{k sz n:Nat}{hide:List Nat}{z:PV}{t e:TypeId}{es:List PV}{xs:List (Nat×PV)}{parts:Array (Nat×Value)}
def Gh.put(G:Gh)(k b γ0:Nat):Gh:=
 {β:=fun key=>if key.1=k then b else G.β key,R:=fun key=>if key.1=k then key.2=none else G.R key,γ:=fun key=>if key.1=k then γ0 else G.γ key,σ:=G.σ,Z:=G.Z}
section
variable{P:Program}{B:Nat}{Z0:Nat→Prop}{G:Gh}{h:l5}{w w':World}
theorem a6p{g:Nat}{ob:Ob}(hn:hide.contains k=false)(hh:h[k]?=some (g,ob)):(l8 h hide k).1=g:=by
 unfold l8
 grind
theorem b1e{b γ0 k':Nat}{y:Option (Nat×Nat)}(hk:k'≠k):B8 G (G.put k b γ0) (k',y):=by refine⟨?_,?_,?_,rfl⟩<;>simp[Gh.put,hk]
theorem b1o(hr:p7 B Z0 G h w){g:Nat}{old:Ob}(hh:h[k]?=some (g,old)){ob:Obj}(hod:isD ob=true){o':Ob}(γ0:Nat)(hw:w'.heap=w.heap.push ob)
 (hfr:b2u o'=true→∀y,(G.put k w.heap.size γ0).R (k,y)→(G.put k w.heap.size γ0).Z ((G.put k w.heap.size γ0).β (k,y)))
 (ho:Ext G h w (G.put k w.heap.size γ0) (h.set k (g+1,o')) w'→E5 (G.put k w.heap.size γ0) (h.set k (g+1,o')) w' k o'):
 p7 B Z0 (G.put k w.heap.size γ0) (h.set k (g+1,o')) w'∧Ext G h w (G.put k w.heap.size γ0) (h.set k (g+1,o')) w':=by
 have hk:k<h.length:=(B4.1 hh).1;have hold:∀b,b<w.heap.size→w'.heap[b]?=w.heap[b]?:=fun b hb=>by rw[hw,Array.getElem?_push,if_neg i9]
 have x:Ext G h w (G.put k w.heap.size γ0) (h.set k (g+1,o')) w':=by
  refine⟨fun _ y=>y,fun b hb=>hold b (hr.zb b hb).lt,fun k' gn ob e=>?_⟩;by_cases hkk:k'=k
  . grind
  . exact⟨gn,ob,by rw[D9 (Ne.symm hkk)];exact e,m0 _,fun _=>K5.refl k' ob (b1e hkk) fun i j=>b1e hkk⟩
 refine⟨hr.update k (g+1) o' hk x (fun k' y hkk=>.inl (b1e hkk)) (fun k' y hkk hR=>hold _ (hr.lv _ hR).2.lt) (by rw[hw];simp) (fun b hb=>(hr.zb b hb).eq (x.zw b hb)) (fun b hb=>.inl hb) (fun _ _ _ _ hn=>hn) (fun y hR=>?_) hfr (ho x),x⟩;have hy:y=none:=by simpa[Gh.put]using hR
 subst hy;have hβ:(G.put k w.heap.size γ0).β (k,none)=w.heap.size:=by simp[Gh.put]
 rw[hβ];refine⟨hr.base,⟨ob,by rw[hw];simp,hod⟩,fun _ hz=>by have:=(hr.zb _ hz).lt;omega,fun y' hR' _=>?_,fun k' y' hkk hR'=>?_⟩
 . have:y'=none:=(by simpa[Gh.put]using hR');exact this.symm
 . obtain⟨a1,a2,_⟩:=b1e (G:=G) (b:=w.heap.size) (γ0:=γ0) (y:=y') hkk;rw[a1];have:=(hr.lv _ (a2.1 hR')).2.lt;omega
theorem a5z(hr:p7 B Z0 G h w)(o:Obj):Bl B w (w.alloc o):=(Bl.refl _ _).alloc hr.base o
theorem b7k(o:Obj):(w.alloc o).heap=w.heap.push o:=rfl
theorem b5x(hr:p7 B Z0 G h w)(hk:k<h.length∧hide.contains k=false){us:Array Value}{T:TypeId}{cs:List PV}(hu:I6 (fun v c=>one c=true∧j8 G h w D v c) us cs)
 {s:Sem Next} (hs:s.run P w=.ok (.value (.pointer (some ⟨w.heap.size,0,none⟩))) (w.alloc (.cells us T))):
 Good P B Z0 G h w s (.ptr k ((l8 h hide k).1+1) 0) [(k,((l8 h hide k).1+1,.var cs))]:=by
 obtain⟨⟨g,old⟩,hh⟩:∃r,h[k]?=some r:=⟨_,l9 hk.1⟩
 rw[a6p hk.2 hh];obtain⟨h1,h2⟩:=b1o (w':=w.alloc (.cells us T)) (o':=.var cs) hr hh (ob:=.cells us T) rfl 0 rfl (fun e=>by cases e) (fun x=>by unfold E5;refine⟨by simp[Gh.put],us,T,?_,hu.mono fun v c y=>⟨y.1,y.2.ext x⟩⟩;rw[show(G.put k w.heap.size 0).β (root k)=w.heap.size by simp[Gh.put]];exact heap_alloc_new w _)
 refine⟨_,_,_,_,hs,.inl rfl,h1,h2,?_,a5z hr _⟩;unfold D;unfold j8;refine⟨_,rfl,g+1,.var cs,D7 hk.1,m0 _,fun _ cs' e=>?_⟩;simp[Gh.put]
theorem b4Q(hr:p7 B Z0 G h w)(hk:k<h.length∧hide.contains k=false){us:Array Value}{T:TypeId}{cap:Nat}(hsz:0<sz)(hus:us.size=cap*sz)(hle:es.length≤cap)(hm:cap≤maxLen)
 (hu:∀(i:Nat) e,es[i]?=some e→(l6 e).length=sz∧∀(j:Nat) c,(l6 e)[j]?=some c→one c=true∧∃u,us[i*sz+j]?=some u∧j8 G h w D u c)
 {s:Sem Next} {w':World} (hw:w'.heap=w.heap.push (.cells us T (0,0))) (hb:Bl B w w') (hs:s.run P w=.ok (.value (.slice (some ⟨w.heap.size,0,none⟩) es.length cap)) w'):
 Good P B Z0 G h w s (.own k ((l8 h hide k).1+1) es.length sz 0 es.length) [(k,((l8 h hide k).1+1,.arr sz 0 false es))]:=by
 obtain⟨⟨g,old⟩,hh⟩:∃r,h[k]?=some r:=⟨_,l9 hk.1⟩
 rw[a6p hk.2 hh];have hβ:(G.put k w.heap.size cap).β (root k)=w.heap.size:=by simp[Gh.put]
 have hγ:(G.put k w.heap.size cap).γ (root k)=cap:=by simp[Gh.put]
 have hR:(G.put k w.heap.size cap).R (root k):=by simp[Gh.put]
 obtain⟨h1,h2⟩:=b1o (w':=w') (o':=.arr sz 0 false es) hr hh (ob:=.cells us T) rfl cap hw (fun e=>by cases e) (fun x=>by unfold E5;rw[hβ,hγ];refine⟨hsz,hle,hm,fun _=>⟨us,T,by rw[hw];simp,hus,fun i e he=>?_⟩,fun hn=>absurd hR hn⟩;obtain⟨h3,h4⟩:=hu i e he;refine⟨h3,fun j c hc=>?_⟩;obtain⟨h5,u,h6,h7⟩:=h4 j c hc;refine⟨u,h6,?_⟩;have h8:=h7.ext x;cases c<;>first|(simp[one,T6]at h5;done)|(unfold F9;exact⟨h5,h8⟩))
 refine⟨_,_,_,_,hs,.inl rfl,h1,h2,?_,hb⟩;unfold D;unfold j8;refine⟨_,_,rfl,hle,hm,.inr ⟨_,_,rfl⟩,g+1,.arr sz 0 false es,D7 hk.1,m0 _,fun _ sz' ver fr es' e=>?_⟩;cases e;refine⟨m0 _,fun _=>⟨i9,fun _=>⟨0,by rw[hβ],.inr k7,i9,by rw[hγ];omega⟩,fun hn=>absurd hR hn⟩⟩
theorem a5W{v:Value}(hk:ofV v=some z):I6 (fun u c=>one c=true∧j8 G h w D u c) v.cells (l6 z):=
 let x:=a7b (G:=G) (h:=h) (w:=w) hk
 a4R x.1 x.2
theorem c5b(hr:p7 B Z0 G h w)(hk:k<h.length∧hide.contains k=false)(hz:a0c P t=some z):
 Good P B Z0 G h w (do pure (.value (←Instr.alloc t true (.tuple #[])))) (.ptr k ((l8 h hide k).1+1) 0) [(k,((l8 h hide k).1+1,.var (l6 z)))]:=by
 obtain⟨i,v,h1,h2,h3⟩:=a4r hz;refine b5x hr hk (T:=t) (us:=v.cells) (a5W h3) ?_;simp[Instr.alloc,a9M h1 h2,newVar,newRow]
theorem c7q(hr:p7 B Z0 G h w)(hk:k<h.length∧hide.contains k=false){v:Value}{p:PV}(hv:j8 G h w D v p)(ho:(l6 p).all one=true):
 Good P B Z0 G h w (do pure (.value (←Instr.box t v))) (.ptr k ((l8 h hide k).1+1) 0) [(k,((l8 h hide k).1+1,.var (l6 p)))]:=by
 refine b5x hr hk (T:=t) (us:=v.cells) (a4R hv ho) ?_;simp[Instr.box,newVar,newRow]
theorem b6W{z:Array Value}{i:Nat}(hz:0<z.size)(hi:i<n):(madeCells z n)[i]?=z[i%z.size]?:=by have hm:i%z.size<z.size:=Nat.mod_lt _ hz;simp[madeCells,hi,hm]
theorem b8x{i j:Nat}(hj:j<sz):(i*sz+j)%sz=j:=by rw[Nat.add_comm,Nat.add_mul_mod_self_right,Nat.mod_eq_of_lt hj]
theorem b8Z(e:PV):l6 (a7m e)=(l6 e).map a1N:=by cases e<;>rfl
theorem c4J{u:Value}{c:PV}(ho:one c=true)(hv:j8 G h w D u c):one (a1N c)=true∧j8 G h w D u (a1N c):=by
 by_cases hc:c=.nils
 . subst hc;obtain rfl:=Z7 hv;exact⟨rfl,a1d (PR.U2.2 ⟨none,0,0,rfl,m0 _,C9 _,fun _=>rfl,fun i e he=>by simp at he⟩)⟩
 . have e:a1N c=c:=by cases c<;>first|rfl|exact absurd rfl hc
   rw[e];exact⟨ho,hv⟩
theorem c9g(hr:p7 B Z0 G h w){by_:Nat}(hk:k<h.length∧hide.contains k=false){l c:Int}(hu:a3E P t=some e)(hs:H8 P e=some sz)(hb:a4v P e=some by_)(hz:a0c P e=some z)
 (h0:sz≠0) (hzl:(l6 z).length=sz) (c1:0≤l) (c2:l≤c) (c3:c*by_≤140737488355328) (c4:c≤9223372036854775807):
 Good P B Z0 G h w (do pure (.value (←Instr.makeSlice t (.int .i64 l) (.int .i64 c)))) (.own k ((l8 h hide k).1+1) l.toNat sz 0 l.toNat) [(k,((l8 h hide k).1+1,.arr sz 0 false (List.replicate l.toNat z)))]:=by
 obtain⟨i,v,h1,h2,h3⟩:=a4r hz;obtain⟨i',hi,rfl⟩:=a1h hs;rw[h1]at hi;cases hi;have hby:i.bytes=by_:=by unfold a4v at hb;rw[h1]at hb;simpa using hb
 have hle:(i.bytes:Int)*c≤281474976710656:=by grind
 have hrun:=run_make (P:=P) w t e i v (b3s hu) h1 h2 .i64 .i64 l c c1 c2 hle c4;have hlz:=a5W (G:=G) (h:=h) (w:=w) h3;have hvs:v.cells.size=i.size:=by rw[hlz.1,hzl]
 have:=b4Q (P:=P) hr (hide:=hide) hk (us:=madeCells v.cells (c.toNat*i.size)) (T:=e) (es:=List.replicate l.toNat z) (cap:=c.toNat) (sz:=i.size) i9 (size_madeCells _ _) I3 (by unfold maxLen;omega)
  (fun a x hx=>by
   have hx':=b4F (C8 hx);subst hx';have ha:a<l.toNat:=(by grind);refine⟨hzl,fun j cc hj=>?_⟩;obtain⟨u,g1,g2,g3⟩:=hlz.2 j cc hj;have hjs:j<i.size:=(by grind);refine⟨g2,u,?_,g3⟩;rw[b6W i9]
   . rw[hvs,b8x hjs];exact g1
   . have:(a+1)*i.size≤c.toNat*i.size:=Z4 _ i9;rw[Q9]at this;omega)
  (s:=do pure (.value (←Instr.makeSlice t (.int .i64 l) (.int .i64 c)))) (w':=w.alloc (.cells (madeCells v.cells (c.toNat*i.size)) e)) rfl (a5z hr _) (by simp[hrun])
 simpa using this
inductive a4c(G:Gh)(h:l5)(w:World):List (Nat×Value)→List (Nat×PV)→Prop
 |nil:a4c G h w [] []
 |cons {i v p l m}:j8 G h w D v p→a4c G h w l m→a4c G h w ((i,v)::l) ((i,p)::m)
def a9o(G:Gh)(h:l5)(w:World)(sz:Nat)(A:Array Value)(es:List PV):Prop:=A.size=es.length*sz∧∀(i:Nat) e,es[i]?=some e→(l6 e).length=sz∧∀(j:Nat) c,(l6 e)[j]?=some c→one c=true∧∃u,A[i*sz+j]?=some u∧j8 G h w D u c
theorem c7e(hsz:0<sz){parts:List (Nat×Value)}(hp:a4c G h w parts xs):∀{A:Array Value} {es es':List PV},a9o G h w sz A es→a2Z sz es xs=some es'→
 ∃A',Instr.fill (fun i=>some (i*sz,sz)) A parts=some A'∧a9o G h w sz A' es'∧es'.length=es.length:=by
 induction hp with
 |nil=>intro A es es' hA hk;simp[a2Z]at hk;subst hk;exact⟨A,rfl,hA,rfl⟩
 | @cons i v p l m h2 h3 ih=>
  intro A es es' hA hk;simp only[a2Z]at hk;split at hk
  . rename_i hc;obtain⟨c1,c2,c3⟩:=hc;have hvc:=a4R h2 c3;have hsz2:v.cells.size=sz:=(by rw[hvc.1,c1]);have hroom:i*sz+sz≤A.size:=by
     rw[hA.1];have:(i+1)*sz≤es.length*sz:=Z4 _ i9;rw[Q9]at this;omega
    obtain⟨s1,s2⟩:=b8v (i*sz) v.cells A i9;have hnew:a9o G h w sz (v.cells.zipIdx.foldl (fun(cs:Array Value) (x:Value×Nat)=>cs.setIfInBounds (i*sz+x.2) x.1) A) (es.set i p):=by
     refine⟨by rw[s1,hA.1];simp,fun t e ht=>?_⟩;by_cases hti:t=i
     . subst hti;rw[D7 c2]at ht;cases ht;refine⟨c1,fun j c hj=>?_⟩;have hjs:j<sz:=(by grind);obtain⟨u,g1,g2,g3⟩:=hvc.2 j c hj;refine⟨g2,u,?_,g3⟩;rw[s2,if_pos i9,show t*sz+j-t*sz=j by omega];exact g1
     . rw[D9 (Ne.symm hti)]at ht;obtain⟨g1,g2⟩:=hA.2 t e ht;refine⟨g1,fun j c hj=>?_⟩;have hjs:j<sz:=(by grind);obtain⟨g3,u,g4,g5⟩:=g2 j c hj;refine⟨g3,u,?_,g5⟩;rw[s2,if_neg ?_]
       . exact g4
       . rw[hsz2];rintro⟨q1,q2⟩;rcases b1M hti with hlt|hlt
         . have:(t+1)*sz≤i*sz:=Z4 _ i9;rw[Q9]at this;omega
         . have:(i+1)*sz≤t*sz:=Z4 _ i9;rw[Q9]at this;omega
    obtain⟨A',h4,h5,h6⟩:=ih hnew hk;refine⟨A',?_,h5,by simpa using h6⟩;simp only[Instr.fill];have hcond:(decide (v.cells.size≠sz)||decide (i*sz+v.cells.size>A.size))=false:=by simp[hsz2];omega
    simp only[hcond,a3W,if_false];exact h4
  . cases hk
theorem b0s(hu:a3E P t=some e)(hs:H8 P e=some sz)(hz:a0c P e=some z)
 (h0:sz≠0) (hn:n*sz≤16777216) (hzl:(l6 z).length=sz) (hp:a4c G h w parts.toList xs) (hm:a2Z sz (List.replicate n z) xs=some es):
 ∃A',(Instr.buildSlice t n parts).run P w=.ok (.slice (some ⟨w.heap.size,0,none⟩) n n) (w.alloc (.cells A' e))∧a9o G h w sz A' es∧es.length=n∧n≤16777216:=by
 obtain⟨i,v,h1,h2,h3⟩:=a4r hz;obtain⟨i',hi,rfl⟩:=a1h hs;rw[h1]at hi;cases hi;have hlz:=a5W (G:=G) (h:=h) (w:=w) h3;have hvs:v.cells.size=i.size:=by rw[hlz.1,hzl]
 have hA:a9o G h w i.size (madeCells v.cells (n*i.size)) (List.replicate n z):=by
  refine⟨by rw[size_madeCells];simp,fun a x hx=>?_⟩;have hx':=b4F (C8 hx);subst hx';have ha:a<n:=by grind
  refine⟨hzl,fun j cc hj=>?_⟩;obtain⟨u,g1,g2,g3⟩:=hlz.2 j cc hj;have hjs:j<i.size:=by grind
  refine⟨g2,u,?_,g3⟩;rw[b6W i9]
  . rw[hvs,b8x hjs];exact g1
  . have:(a+1)*i.size≤n*i.size:=Z4 _ i9;rw[Q9]at this;omega
 obtain⟨A',h4,h5,h6⟩:=c7e i9 hp hA hm;have hlen:es.length=n:=by simpa using h6
 have hrun:(Instr.buildSlice t n parts).run P w=.ok (.slice (some ⟨w.heap.size,0,none⟩) n n) (w.alloc (.cells A' e)):=by
  have hlim:¬(16777216<n*i.size):=i9;by_cases hz0:n*i.size=0
  . have hn0:n=0:=by
     rcases Nat.mul_eq_zero.1 hz0 with x|x
     . exact x
     . exact absurd x h0
    subst hn0;have hmade:madeCells v.cells 0= #[]:=(by simp[madeCells,Array.range_zero']);rw[Nat.zero_mul,hmade]at h4;have h4':Instr.fill (fun x=>some (x*i.size,i.size)) (Array.map (fun x=>default) (Array.range 0)) parts.toList=some A':=(by grind);simp[Instr.buildSlice,run_underlying (b3s hu),sizeOf,typeInfo,h1,h4',newRow]
  . have hrz:=a9M (w:=w) h1 h2;simp only[madeCells]at h4;simp[Instr.buildSlice,run_underlying (b3s hu),sizeOf,typeInfo,h1,hlim,hz0,hrz,h4,newRow]
 have hbound:n≤16777216:=by have:n*1≤n*i.size:=Nat.mul_le_mul_left _ i9;omega
 exact⟨A',hrun,h5,hlen,hbound⟩
theorem c2O(hr:p7 B Z0 G h w)(hk:k<h.length∧hide.contains k=false)(hu:a3E P t=some e)(hs:H8 P e=some sz)(hz:a0c P e=some z)
 (h0:sz≠0) (hn:n*sz≤16777216) (hzl:(l6 z).length=sz) (hp:a4c G h w parts.toList xs) (hm:a2Z sz (List.replicate n z) xs=some es):
 Good P B Z0 G h w (do pure (.value (←Instr.buildSlice t n parts))) (.own k ((l8 h hide k).1+1) es.length sz 0 es.length) [(k,((l8 h hide k).1+1,.arr sz 0 false es))]:=by
 obtain⟨A',hrun,h5,hlen,hbound⟩:=b0s (P:=P) hu hs hz h0 hn hzl hp hm;exact b4Q (P:=P) hr (hide:=hide) hk (us:=A') (T:=e) (es:=es) (cap:=n) (sz:=sz) i9 (by rw[h5.1,hlen]) i9 (by unfold maxLen;omega) h5.2 (w':=w.alloc (.cells A' e)) rfl (a5z hr _) (by simp[hrun,hlen])
theorem b2g(hr:p7 B Z0 G h w)(o:Obj)(hoc:∃us T x,o=.cells us T x):p7 B Z0 {G with Z:=fun b=>G.Z b∨b=w.heap.size} h (w.alloc o)∧Ext G h w {G with Z:=fun b=>G.Z b∨b=w.heap.size} h (w.alloc o):=by
 have hold:∀b,b<w.heap.size→(w.alloc o).heap[b]?=w.heap[b]?:=fun b hb=>by
  rw[b7k,Array.getElem?_push];split
  . omega
  . rfl
 have hsz:(w.alloc o).heap.size=w.heap.size+1:=by rw[b7k];simp
 have x:Ext G h w {G with Z:=fun b=>G.Z b∨b=w.heap.size} h (w.alloc o):=
  ⟨fun _ y=>.inl y,fun b hb=>hold b (hr.zb b hb).lt,fun k gn ob e=>⟨gn,ob,e,m0 _,fun _=>K5.refl k ob ⟨rfl,Iff.rfl,rfl,rfl⟩ fun _ _=>⟨rfl,Iff.rfl,rfl,rfl⟩⟩⟩
 refine⟨⟨by rw[hsz];have:=hr.base;omega,?_,?_,fun key hk=>?_,?_,fun k g o hh hfo y hR=>.inl (hr.fz k g o hh hfo y hR),hr.inj,fun k g ob hh=>?_⟩,x⟩
 . rintro b (hb|rfl)
   . exact hr.zo b hb
   . exact .inr hr.base
 . rintro b (hb|rfl)
   . exact(hr.zb b hb).eq (hold b (hr.zb b hb).lt)
   . obtain⟨us,T,x0,rfl⟩:=hoc;exact V6.of (heap_alloc_new w _)
 . have:=hr.lv key hk;exact⟨this.1,this.2.eq (hold _ this.2.lt)⟩
 . rintro k g ob hh hl y hR (hb|hb)
   . exact hr.nz k g ob hh hl y hR hb
   . have h1:=(hr.lv (k,y) hR).2.lt
     grind
 . exact(hr.ob k g ob hh).ext x (fun y=>⟨rfl,Iff.rfl,rfl,rfl⟩) fun y hR=>hold _ (hr.lv _ hR).2.lt
theorem c0R{u:Value}{c:PV}{Z':Nat→Prop}(hz:∀b,G.Z b→Z' b){w':World}(hw:∀b,G.Z b→w'.heap[b]?=w.heap[b]?)(hp:A6 (a1N c)=true)(hv:j8 G h w D u c):one (a1N c)=true∧PR Z' w' u (a1N c):=by
 by_cases hc:c=.nils
 . subst hc;obtain rfl:=Z7 hv;exact⟨rfl,PR.U2.2 ⟨none,0,0,rfl,m0 _,C9 _,fun _=>rfl,fun i e he=>by simp at he⟩⟩
 . have e:a1N c=c:=by cases c<;>first|rfl|exact absurd rfl hc
   rw[e]at hp⊢;refine⟨by cases c<;>first|rfl|(simp[A6]at hp),?_⟩;have hpr:PR G.Z w u c:=by cases c<;>first|(simp[A6]at hp;done)|exact a2M hv|(unfold D at hv;unfold j8 at hv;exact hv)|(unfold D at hv;unfold j8 at hv;exact⟨0,by unfold K0;exact hv⟩)
   exact hpr.mono hz hw
theorem c6z(hr:p7 B Z0 G h w)(hu:a3E P t=some e)(hs:H8 P e=some sz)(hz:a0c P e=some z)
 (h0:sz≠0) (hn:n*sz≤16777216) (hzl:(l6 z).length=sz) (hp:a4c G h w parts.toList xs) (hm:a2Z sz (List.replicate n z) xs=some es) (hpu:es.all (fun e=>(l6 (a7m e)).all A6)=true):
 Good P B Z0 G h w (do pure (.value (←Instr.buildSlice t n parts))) (.slc (es.map a7m)) []:=by
 obtain⟨A',hrun,h5,hlen,hbound⟩:=b0s (P:=P) hu hs hz h0 hn hzl hp hm;obtain⟨p1,p2⟩:=b2g hr (.cells A' e) ⟨_,_,_,rfl⟩;refine⟨.value (.slice (some ⟨w.heap.size,0,none⟩) n n),_,w.alloc (.cells A' e),_,by simp[hrun],.inl rfl,p1,p2,a1d (PR.U2.2 ⟨some ⟨w.heap.size,0,none⟩,n,sz,by simp[hlen],by simp[hlen],by unfold maxLen;omega,k7,fun i x hx=>?_⟩),a5z hr _⟩;rw[H5]at hx;obtain⟨x0,hx0,rfl⟩:=C5.1 hx;obtain⟨g1,g2⟩:=h5.2 i x0 hx0;rw[b8Z];refine⟨by simpa using g1,_,_,rfl,.inr rfl,fun j c hc=>?_⟩;rw[H5]at hc;obtain⟨c0,hc0,rfl⟩:=C5.1 hc;obtain⟨_,u,g3,g4⟩:=g2 j c0 hc0;have hpc:A6 (a1N c0)=true:=by have h1:=A8.1 hpu x0 (C8 hx0);rw[b8Z]at h1;exact A8.1 h1 _ (E9.2 ⟨c0,C8 hc0,rfl⟩)
 obtain⟨g5,g6⟩:=c0R (Z':=fun b=>G.Z b∨b=w.heap.size) (w':=w.alloc (.cells A' e)) (fun b hb=>.inl hb) p2.zw hpc g4;refine⟨g5,u,?_,g6⟩;rw[a0U (heap_alloc_new w _),U3];exact g3
end
end
section
variable{u:Value}{c:PV}{k:Nat}
section
variable{P:Program}{B:Nat}{Z0:Nat→Prop}{G G':Gh}{h h':l5}{w w':World}
theorem a4D(hp:A6 c=true)(hv:j8 G h w D u c):PR G.Z w u c:=by
 cases c<;>(try (simp[A6]at hp;done))
 case slc es=>exact a2M hv
 case J9 ks vs=>unfold D at hv;unfold j8 at hv;exact hv
 case fptr cs=>exact a9t hv
 all_goals (refine⟨0,?_⟩;unfold D at hv;unfold j8 at hv;unfold K0;exact hv)
theorem a3U(hp:A6 c=true):one c=true:=by cases c<;>simp[A6]at hp<;>rfl
theorem N7.ext(x:Ext G h w G' h' w'){key key':Key}(hk:G'.β key'=G.β key∧(G'.R key'↔G.R key)∧G'.γ key'=G.γ key∧G'.σ key'=G.σ key)(hb:G.R key→w'.heap[G.β key]?=w.heap[G.β key]?){ns:List PV}(hp:N7 G w key u ns):N7 G' w' key' u ns:=by unfold N7 at hp⊢;obtain⟨a1,a2,a3,a4⟩:=hk;rw[a1,a2,a3,a4];refine⟨fun r=>?_,hp.2⟩;obtain⟨us,T,f,c,h1,h0,h2,h3,h3',h4,h5,h6,h7⟩:=hp.1 r;refine⟨us,T,f,c,h1,h0,h2,h3,h3',by rw[hb r];exact h4,h5,h6,fun i e he=>?_⟩;obtain⟨h8,h9⟩:=h7 i e he;refine⟨h8,fun j c hc=>?_⟩;obtain⟨h10,v,h11,h12⟩:=h9 j c hc;exact⟨h10,v,h11,h12.mono x.zz x.zw⟩
theorem b5Z{Z':Nat→Prop}(hz:∀b,G.Z b→Z' b){key:Key}(hk:G.R key→Z' (G.β key)){ns:List PV}(hp:N7 G w key u ns):PR Z' w u (.slc ns):=by
 unfold N7 at hp;by_cases hR:G.R key
 . obtain⟨us,T,f,c,rfl,h0,h2,h3,h3',h4,h5,h6,h7⟩:=hp.1 hR;refine PR.U2.2 ⟨_,c,G.σ key,rfl,h2,i9,fun e=>absurd e k7,fun i e he=>?_⟩;obtain⟨h8,h9⟩:=h7 i e he;have hi:=(B4.1 he).1;refine⟨h8,_,_,rfl,hk hR,fun j cc hc=>?_⟩;obtain⟨h10,v,h11,h12⟩:=h9 j cc hc;refine⟨h10,v,?_,h12.mono hz fun _ _=>rfl⟩;rw[a0U h4]
   grind
 . obtain⟨rfl,rfl⟩:=hp.2 hR;exact PR.U2.2 ⟨none,0,0,rfl,m0 _,C9 _,fun _=>rfl,fun i e he=>by simp at he⟩
theorem a6W{Z':Nat→Prop}(hz:∀b,G.Z b→Z' b){i j:Nat}(hk:G.R (nest k i j)→Z' (G.β (nest k i j)))(hn:(A6 c||I5 c)=true)(hc:F9 G h w k i j u c):one (M1 c)=true∧PR Z' w u (M1 c):=by
 cases c
 case uslc ns=>unfold F9 at hc;exact⟨rfl,b5Z hz hk hc⟩
 case nils=>
  unfold F9 at hc;obtain rfl:=Z7 hc.2;exact⟨rfl,PR.U2.2 ⟨none,0,0,rfl,m0 _,C9 _,fun _=>rfl,fun i e he=>by simp at he⟩⟩
 all_goals
  unfold F9 at hc;exact⟨hc.1,(a4D (by simpa[I5]using hn) hc.2).mono hz fun _ _=>rfl⟩
theorem a5p(e:PV):l6 (B3 e)=(l6 e).map M1:=by cases e<;>rfl
def Gh.a2J(G:Gh)(k s:Nat):Gh:={G with Z:=fun b=>G.Z b∨∃ij,G.R (k,some ij)∧b=G.β (k,some ij),σ:=fun key=>if key=root k then s else G.σ key}
theorem c2s(hr:p7 B Z0 G h w){g s ver:Nat}{es:List PV}(hh:h[k]?=some (g,.arr s ver false es))(hp:es.all D4=true):
 p7 B Z0 (G.a2J k s) (h.set k (g,.dead)) w∧Ext G h w (G.a2J k s) (h.set k (g,.dead)) w∧
  ∀{u:Value} {gl l:Nat},es.length=gl→l=gl→j8 G h w D u (.own k g gl s 0 l)→N7 (G.a2J k s) w (root k) u (es.map B3):=by
 have hk:k<h.length:=(B4.1 hh).1;have hsame:∀k' y,k'≠k→B8 G (G.a2J k s) (k',y):=fun k' y hkk=>⟨rfl,Iff.rfl,rfl,by simp[Gh.a2J,hkk]⟩
 have x:Ext G h w (G.a2J k s) (h.set k (g,.dead)) w:=by
  refine⟨fun _ y=>.inl y,fun _ _=>rfl,fun k' gn ob e=>?_⟩;by_cases hkk:k'=k
  . subst hkk;rw[hh]at e;cases e;exact⟨g,.dead,D7 hk,m0 _,fun _=>K5.dead _ _⟩
  . exact⟨gn,ob,by rw[D9 (Ne.symm hkk)];exact e,m0 _,fun _=>K5.refl k' ob (hsame _ _ hkk) fun i j=>hsame _ _ hkk⟩
 refine⟨hr.update k g .dead hk x (fun k' y hkk=>.inl (hsame k' y hkk)) (fun _ _ _ _=>rfl) (m0 _) ?_ (fun b hb=>hb.imp id fun⟨ij,h1,h2⟩=>h2▸(hr.lv _ h1).1) ?_ ?_ (fun e=>by cases e) trivial,x,?_⟩
 . rintro b (hb|⟨ij,hR,rfl⟩)
   . exact hr.zb b hb
   . exact(hr.lv _ hR).2
 . rintro k' y hkk hR hn (hb|⟨ij,hR2,he⟩)
   . exact hn hb
   . exact hkk (congrArg Prod.fst (hr.inj _ _ hR hR2 he))
 . intro y hR;obtain⟨b1,b2⟩:=hr.lv (k,y) hR;refine⟨b1,b2,fun e=>absurd e (by simp[a7x]),fun y' hR' he=>?_,fun k' y' hkk hR' he=>?_⟩
   . exact congrArg Prod.snd (hr.inj _ _ hR hR' he)
   . exact hkk (congrArg Prod.fst (hr.inj _ _ hR hR' he)).symm
 . intro u gl l h1 h2 hv;subst h1 h2;unfold D at hv;unfold j8 at hv;obtain⟨a,c,rfl,q1,q2,q3,gn,ob,q4,q5,q6⟩:=hv;rw[hh]at q4;cases q4;obtain⟨_,q7⟩:=q6 rfl _ _ _ _ rfl;obtain⟨_,q8,q9⟩:=q7 rfl;have ho:=hr.ob k g _ hh;unfold E5 at ho;obtain⟨o1,o2,o3,o4,o5⟩:=ho;unfold N7;refine⟨fun hR=>?_,fun hR=>?_⟩
   . obtain⟨us,T,o6,o7,o8⟩:=o4 hR;obtain⟨f,rfl,q10,q11,q12⟩:=q8 hR;refine⟨us,T,f,c,by simp[Gh.a2J],?_,by simpa using q1,?_,o3,o6,?_,?_,fun i e he=>?_⟩
     . omega
     . show c≤G.γ (root k);omega
     . simpa[Gh.a2J]using o7
     . simpa[Gh.a2J]using o1
     . rw[H5]at he;obtain⟨e0,he0,rfl⟩:=C5.1 he;obtain⟨o9,o10⟩:=o8 i e0 he0;have hs':(G.a2J k s).σ (root k)=s:=(by simp[Gh.a2J]);rw[hs',a5p];refine⟨by simpa using o9,fun j cc hc=>?_⟩;rw[H5]at hc;obtain⟨c0,hc0,rfl⟩:=C5.1 hc;obtain⟨v,o11,o12⟩:=o10 j c0 hc0;have hnr:(A6 c0||I5 c0)=true:=A8.1 (show(l6 e0).all (fun c=>A6 c||I5 c)=true from A8.1 hp e0 (C8 he0)) c0 (C8 hc0);obtain⟨o13,o14⟩:=a6W (Z':=(G.a2J k s).Z) (fun b hb=>.inl hb) (fun hR'=>.inr ⟨(i,j),hR',rfl⟩) hnr o12;exact⟨o13,v,o11,o14⟩
   . have he:=o5 hR;subst he;obtain⟨rfl,_⟩:=q9 hR;simp at q1;rcases q3 with⟨_,rfl⟩|⟨b,f,q3⟩
     . exact⟨rfl,rfl⟩
     . cases q3
def a2R(G:Gh)(h:l5)(w:World)(m:Option Nat)(u:Value)(d:PV):Prop:=
 match m with
 |none=>one d=true∧j8 G h w D u d
 |some k=>∃ns,d=.uslc ns∧N7 G w (root k) u ns
theorem a2R.ext(x:Ext G h w G' h' w'){m:Option Nat}{u:Value}{d:PV}(hk:∀k,m=some k→B8 G G' (root k))(hb:∀k,m=some k→G.R (root k)→w'.heap[G.β (root k)]?=w.heap[G.β (root k)]?)(hc:a2R G h w m u d):a2R G' h' w' m u d:=by
 cases m with
 |none=>exact⟨hc.1,hc.2.ext x⟩
 |some k=>obtain⟨ns,rfl,h1⟩:=hc;exact⟨ns,rfl,h1.ext x (hk k rfl) (hb k rfl)⟩
theorem a3x(h:l5)(a b:List (Nat×Row)):m6 h (a++b)=m6 (m6 h a) b:=by simp[m6,List.foldl_append]
theorem a6m:∀(ws:List (Nat×Row)) (h:l5),(m6 h ws).length=h.length
 | [],h=>rfl
 |x::ws,h=>by rw[show m6 h (x::ws)=m6 (h.set x.1 x.2) ws from rfl,a6m ws];simp
theorem a5j:∀(ws:List (Nat×Row)) (h:l5) (k:Nat),k∉ws.map (·.1)→(m6 h ws)[k]?=h[k]?
 | [],h,k,_=>rfl
 |x::ws,h,k,hk=>by simp only[a0s,Z5,not_or]at hk;rw[show m6 h (x::ws)=m6 (h.set x.1 x.2) ws from rfl,a5j ws _ k hk.2,D9 (Ne.symm hk.1)]
structure a4l(G:Gh)(h:l5)(G':Gh)(h':l5)(ks:List Nat):Prop where
 same:∀k y,k∉ks→B8 G G' (k,y)
 β:G'.β=G.β
 R:G'.R=G.R
 dead:∀k,k∈ks→∃g,h'[k]?=some (g,.dead)
 live:∀k,k∈ks→∃g s ver es,h[k]?=some (g,.arr s ver false es)
 other:∀k,k∉ks→h'[k]?=h[k]?
 z:∀b,G'.Z b→G.Z b∨∃k,k∈ks∧∃ij,G.R (k,some ij)∧b=G.β (k,some ij)
theorem b5O(hr:p7 B Z0 G h w){hide:List Nat}{d:PV}{ks:List Nat}{h0:l5}(hks:∀k,k∈ks→h[k]?=h0[k]?)(ho:one c=true)(hv:j8 G h w D u c)(hfr:∀(k g s ver:Nat) (es:List PV),h0[k]?=some (g,Ob.arr s ver true es)→h[k]?=h0[k]?)
 (hk:a4z (l8 h0 hide) c=some (d,ks)):∃G' m,p7 B Z0 G' (m6 h (kill (l8 h0 hide) ks)) w∧Ext G h w G' (m6 h (kill (l8 h0 hide) ks)) w∧a4l G h G' (m6 h (kill (l8 h0 hide) ks)) ks∧
  a2R G' (m6 h (kill (l8 h0 hide) ks)) w m u d∧∀k,m=some k↔k∈ks:=by
 have triv:∀{d},ks=[]→one d=true→j8 G h w D u d→∃G' m,p7 B Z0 G' (m6 h (kill (l8 h0 hide) ks)) w∧Ext G h w G' (m6 h (kill (l8 h0 hide) ks)) w∧a4l G h G' (m6 h (kill (l8 h0 hide) ks)) ks∧
  a2R G' (m6 h (kill (l8 h0 hide) ks)) w m u d∧∀k,m=some k↔k∈ks:=fun{d} e o v=>by
  subst e;exact⟨G,none,hr,Ext.refl,⟨fun _ _ _=>B8.refl _ _,rfl,rfl,fun _ hm=>by simp at hm,fun _ hm=>by simp at hm,fun _ _=>rfl,fun _ hb=>.inl hb⟩,⟨o,v⟩,fun k=>k7⟩
 cases c
 case own k g gl s o l=>
  simp only[a4z]at hk;split at hk
  . rename_i g' s' ver fr es hlk;split at hk
    . rename_i hc;obtain⟨rfl,hl,rfl,rfl,rfl,hp⟩:=hc;have hh0:=T9 hlk k7;split at hk
      . rename_i hf;subst hf;simp only[p9,s6]at hk;obtain⟨rfl,rfl⟩:=hk;have hh:h[k]?=some (g',.arr s' ver true es):=(by grind);refine triv rfl rfl (a1d ?_);have hz:=hr.fz k g' _ hh rfl;have hob:=hr.ob k g' _ hh;unfold E5 at hob;obtain⟨o1,o2,o3,o4,o5⟩:=hob;unfold D at hv;unfold j8 at hv;obtain⟨a,cc,rfl,q1,q2,q3,gn,ob,q4,q5,q6⟩:=hv;rw[hh]at q4;cases q4;obtain⟨_,q7⟩:=q6 rfl _ _ _ _ rfl;obtain⟨_,q8,q9⟩:=q7 hl;by_cases hR:G.R (root k)
        . obtain⟨us,T,o6,o7,o8⟩:=o4 hR;obtain⟨f,rfl,q10,q11,q12⟩:=q8 hR;refine PR.U2.2 ⟨some ⟨G.β (root k),f,none⟩,cc,s',by simp[hl],by simpa[hl]using q1,q2,fun e=>absurd e k7,fun i e he=>?_⟩;rw[H5]at he;obtain⟨e0,he0,rfl⟩:=C5.1 he;have hi:=(B4.1 he0).1;obtain⟨o9,o10⟩:=o8 i e0 he0;rw[a5p];refine⟨by simpa using o9,_,_,rfl,hz none hR,fun j cc' hc=>?_⟩;rw[H5]at hc;obtain⟨c0,hc0,rfl⟩:=C5.1 hc;obtain⟨v,o11,o12⟩:=o10 j c0 hc0;have hnr:(A6 c0||I5 c0)=true:=A8.1 (show(l6 e0).all (fun c=>A6 c||I5 c)=true from A8.1 hp e0 (C8 he0)) c0 (C8 hc0);obtain⟨o13,o14⟩:=a6W (Z':=G.Z) (fun b hb=>hb) (fun hR'=>hz _ hR') hnr o12;refine⟨o13,v,?_,o14⟩;rw[a0U o6];have hf0:f=0:=i9;rw[hf0,U3];exact o11
        . have he:=o5 hR;subst he;obtain⟨rfl,_⟩:=q9 hR;simp at hl;subst hl;rcases q3 with⟨_,rfl⟩|⟨b,f,q3⟩
          . exact PR.U2.2 ⟨none,0,0,rfl,m0 _,C9 _,fun _=>rfl,fun i e he=>by simp at he⟩
          . cases q3
      . rename_i hf;have hf:fr=false:=(by simpa using hf);subst hf;simp only[p9,s6]at hk;obtain⟨rfl,rfl⟩:=hk;have hh:h[k]?=some (g',.arr s' ver false es):=(by grind);obtain⟨a1,a2,a3⟩:=c2s hr hh hp;have hu:m6 h (kill (l8 h0 hide) [k])=h.set k (g',.dead):=(by simp[m6,kill,hlk]);rw[hu];refine⟨_,some k,a1,a2,⟨fun k' y hkk=>?_,rfl,rfl,fun k' hm=>?_,fun k' hm=>?_,fun k' hm=>?_,fun b hb=>?_⟩,⟨_,rfl,a3 hl i9 hv⟩,fun k'=>by simp;exact eq_comm⟩
        . simp at hkk;exact⟨rfl,Iff.rfl,rfl,by simp[Gh.a2J,hkk]⟩
        . grind
        . grind
        . grind
        . exact hb.imp id fun⟨ij,h1,h2⟩=>⟨k,k7,ij,h1,h2⟩
    . cases hk
  . cases hk
 all_goals
  simp only[a4z]at hk
  first
   |(cases hk;done)
   |(simp only[p9,s6]at hk
     obtain⟨rfl,rfl⟩:=hk;exact triv rfl ho hv)
theorem a4l.trans{G1 G2:Gh}{h0 h1 h2:l5}{ls ks:List Nat}(a:a4l G h0 G1 h1 ls)(b:a4l G1 h1 G2 h2 ks)(hd:∀k,k∈ks→k∉ls):a4l G h0 G2 h2 (ls++ks):=by
 refine⟨fun k y hk=>?_,b.β.trans a.β,b.R.trans a.R,fun k hk=>?_,fun k hk=>?_,fun k hk=>?_,fun x hx=>?_⟩
 . simp only[G7,not_or]at hk;exact(a.same k y hk.1).trans (b.same k y hk.2)
 . by_cases h1:k∈ks
   . exact b.dead k h1
   . obtain⟨g,hg⟩:=a.dead k ((G7.1 hk).resolve_right h1);exact⟨g,(b.other k h1).trans hg⟩
 . by_cases h1:k∈ls
   . exact a.live k h1
   . obtain⟨g,s,ver,es,hg⟩:=b.live k ((G7.1 hk).resolve_left h1);exact⟨g,s,ver,es,(a.other k h1).symm.trans hg⟩
 . simp only[G7,not_or]at hk;exact(b.other k hk.2).trans (a.other k hk.1)
 . rcases b.z x hx with h1|⟨k,h1,ij,h2,h3⟩
   . rcases a.z x h1 with h1|⟨k,h1,ij,h2,h3⟩
     . exact .inl h1
     . grind
   . rw[a.R]at h2;rw[a.β]at h3;exact .inr ⟨k,by simp[h1],ij,h2,h3⟩
theorem b2L(lk:D6)(a b:List Nat):kill lk (a++b)=kill lk a++kill lk b:=by simp[kill]
theorem b4w{hide:List Nat}:∀{cs:List PV} {ds:List PV} {ks:List Nat} {val:Nat→Value} {G:Gh} {h:l5} {h0:l5},p7 B Z0 G h w→(∀k,k∈ks→h[k]?=h0[k]?)→
 (∀(k g s ver:Nat) (es:List PV),h0[k]?=some (g,Ob.arr s ver true es)→h[k]?=h0[k]?)→(∀(t:Nat) c,cs[t]?=some c→one c=true∧j8 G h w D (val t) c)→
 a2i (l8 h0 hide) cs=some (ds,ks)→∃(G':Gh) (mk:Nat→Option Nat),p7 B Z0 G' (m6 h (kill (l8 h0 hide) ks)) w∧Ext G h w G' (m6 h (kill (l8 h0 hide) ks)) w∧a4l G h G' (m6 h (kill (l8 h0 hide) ks)) ks∧ds.length=cs.length∧
  (∀(t:Nat) d,ds[t]?=some d→a2R G' (m6 h (kill (l8 h0 hide) ks)) w (mk t) (val t) d)∧(∀t k,mk t=some k→k∈ks∧t<ds.length)∧(∀t t' k,mk t=some k→mk t'=some k→t=t')
 | [],ds,ks,val,G,h,h0,hr,_,_,_,hk=>by
  simp[a2i]at hk;obtain⟨rfl,rfl⟩:=hk;exact⟨G,fun _=>none,hr,Ext.refl,⟨fun _ _ _=>B8.refl _ _,rfl,rfl,fun _ hm=>by simp at hm,fun _ hm=>by simp at hm,fun _ _=>rfl,fun _ hb=>.inl hb⟩,rfl,fun t d hd=>by simp at hd,fun _ _ e=>absurd e k7,fun _ _ _ e=>absurd e k7⟩
 |c::cs,ds,ks,val,G,h,h0,hr,hks,hfr,hv,hk=>by
  simp only[a2i]at hk;split at hk
  . rename_i d ks0 ds' ls hc hcs;split at hk
    . rename_i hdis;simp only[p9,s6]at hk;obtain⟨rfl,rfl⟩:=hk;have hdis':∀k,k∈ks0→k∉ls:=fun k hk1 hk2=>by
       have:=A8.1 hdis k hk1;simp at this;exact this hk2
      obtain⟨G1,mk1,a1,a2,a3,a4,a5,a6,a7⟩:=b4w (val:=fun t=>val (t+1)) hr (fun k hk=>hks k (by simp[hk])) hfr (fun t c hc=>hv (t+1) c (by simpa using hc)) hcs;obtain⟨v1,v2⟩:=hv 0 c rfl;obtain⟨G2,m,b1,b2,b3,b4,b5⟩:=b5O a1 (fun k hk=>(a3.other k (hdis' k hk)).trans (hks k (by simp[hk]))) v1 (v2.ext a2) (fun k g s ver es he=>by refine(a3.other k fun hm=>?_).trans (hfr k g s ver es he);obtain⟨g',s',v',es',e'⟩:=a3.live k hm;rw[hfr k g s ver es he,he]at e';cases e') hc
      rw[b2L,a3x];refine⟨G2,fun t=>match t with|0=>m|t+1=>mk1 t,b1,a2.trans b2,a3.trans b3 hdis',by simp[a4],fun t d' hd=>?_,fun t k he=>?_,fun t t' k he he'=>?_⟩
      . cases t with
        |zero=>simp at hd;subst hd;exact b4
        |succ t=>
         refine(a5 t d' (by simpa using hd)).ext b2 (fun k hm=>?_) (fun k hm _=>rfl);exact b3.same k none fun hk1=>hdis' k hk1 (a6 t k hm).1
      . grind
      . grind
    . cases hk
  . cases hk
theorem c0c{m:Option Nat}{d:PV}(hc:a2R G h w m u d):l6 d=[d]:=by
 cases m with
 |none=>have:=hc.1;cases d<;>first|rfl|(simp[one,T6]at this)
 |some k=>obtain⟨ns,rfl,_⟩:=hc;rfl
theorem c3B{e:PV}{ds:List PV}{mk:Nat→Option Nat}{val:Nat→Value}(hl:ds.length=(l6 e).length)(hd:∀(t:Nat) d,ds[t]?=some d→a2R G h w (mk t) (val t) d):l6 (reE e ds)=ds:=by
 cases e
 case agg=>rfl
 all_goals
  match ds,hl,hd with
  | [d],_,hd=>exact c0c (hd 0 d rfl)
  | [],hl,_=>simp[l6]at hl
  |_::_::_,hl,_=>simp[l6]at hl
theorem c0t{hide:List Nat}:∀{es:List PV} {ds:List PV} {ks:List Nat} {val:Nat→Nat→Value} {G:Gh} {h:l5} {h0:l5},p7 B Z0 G h w→(∀k,k∈ks→h[k]?=h0[k]?)→
 (∀(k g s ver:Nat) (es:List PV),h0[k]?=some (g,Ob.arr s ver true es)→h[k]?=h0[k]?)→(∀(i:Nat) e,es[i]?=some e→∀(t:Nat) c,(l6 e)[t]?=some c→one c=true∧j8 G h w D (val i t) c)→
 a3T (l8 h0 hide) es=some (ds,ks)→∃(G':Gh) (mk:Nat→Nat→Option Nat),p7 B Z0 G' (m6 h (kill (l8 h0 hide) ks)) w∧Ext G h w G' (m6 h (kill (l8 h0 hide) ks)) w∧a4l G h G' (m6 h (kill (l8 h0 hide) ks)) ks∧ds.length=es.length∧
  (∀(i:Nat) d e,ds[i]?=some d→es[i]?=some e→(l6 d).length=(l6 e).length∧∀(t:Nat) c,(l6 d)[t]?=some c→a2R G' (m6 h (kill (l8 h0 hide) ks)) w (mk i t) (val i t) c)∧
  (∀i t k,mk i t=some k→k∈ks∧i<ds.length)∧(∀i t i' t' k,mk i t=some k→mk i' t'=some k→i=i'∧t=t')
 | [],ds,ks,val,G,h,h0,hr,_,_,_,hk=>by
  simp[a3T]at hk;obtain⟨rfl,rfl⟩:=hk;exact⟨G,fun _ _=>none,hr,Ext.refl,⟨fun _ _ _=>B8.refl _ _,rfl,rfl,fun _ hm=>by simp at hm,fun _ hm=>by simp at hm,fun _ _=>rfl,fun _ hb=>.inl hb⟩,rfl,fun t d e hd=>by simp at hd,fun _ _ _ e=>absurd e k7,fun _ _ _ _ _ e=>absurd e k7⟩
 |e::es,ds,ks,val,G,h,h0,hr,hks,hfr,hv,hk=>by
  simp only[a3T]at hk;split at hk
  . rename_i d ks0 ds' ls hc hcs;split at hk
    . rename_i hdis;simp only[p9,s6]at hk;obtain⟨rfl,rfl⟩:=hk;have hdis':∀k,k∈ks0→k∉ls:=fun k hk1 hk2=>by
       have:=A8.1 hdis k hk1;simp at this;exact this hk2
      obtain⟨G1,mk1,a1,a2,a3,a4,a5,a6,a7⟩:=c0t (val:=fun i=>val (i+1)) hr (fun k hk=>hks k (by simp[hk])) hfr (fun t c hc=>hv (t+1) c (by simpa using hc)) hcs;unfold a6H at hc;split at hc
      . rename_i dd kk hcc;simp only[p9,s6]at hc;obtain⟨rfl,rfl⟩:=hc;obtain⟨G2,mk2,b1,b2,b3,b4,b5,b6,b7⟩:=b4w (val:=val 0) a1 (fun k hk=>(a3.other k (hdis' k hk)).trans (hks k (by simp[hk]))) (fun k g s ver es he=>by
         refine(a3.other k fun hm=>?_).trans (hfr k g s ver es he);obtain⟨g',s',v',es',e'⟩:=a3.live k hm;rw[hfr k g s ver es he,he]at e';cases e') (fun t c hc=>by obtain⟨v1,v2⟩:=hv 0 e rfl t c hc;exact⟨v1,v2.ext a2⟩) hcc
        have hre:=c3B b4 b5;rw[b2L,a3x];refine⟨G2,fun i t=>match i with|0=>mk2 t|i+1=>mk1 i t,b1,a2.trans b2,a3.trans b3 hdis',by simp[a4],fun i d' e' hd he=>?_,fun i t k he=>?_,fun i t i' t' k he he'=>?_⟩
        . cases i with
          |zero=>
           simp at hd he;subst hd;subst he;rw[hre];exact⟨b4,b5⟩
          |succ i=>
           obtain⟨q1,q2⟩:=a5 i d' e' (by simpa using hd) (by simpa using he);refine⟨q1,fun t c hc=>(q2 t c hc).ext b2 (fun k hm=>?_) (fun k hm _=>rfl)⟩;exact b3.same k none fun hk1=>hdis' k hk1 (a6 i t k hm).1
        . grind
        . grind
      . cases hc
    . cases hk
  . cases hk
theorem b5E(hr:p7 B Z0 G h w){ks:List Nat}(hK:a4l G h G' h' ks)(hk:k∈ks)(hR:G.R (root k)):¬G'.Z (G'.β (root k)):=by
 intro hz;rw[hK.β]at hz;obtain⟨g,s,ver,es,hg⟩:=hK.live k hk;rcases hK.z _ hz with h1|⟨k',_,ij,h2,h3⟩
 . exact hr.nz k g _ hg rfl none hR h1
 . have:=hr.inj _ _ hR h2 h3;simp at this
end
end
section
variable{k i j b γ0:Nat}{mk:Nat→Nat→Option Nat}
def a9k(mk:Nat→Nat→Option Nat)(k:Nat):Prop:=∃i j,mk i j=some k
def a1m(k:Nat)(mk:Nat→Nat→Option Nat):Key→Key
 |(k',some (i,j))=>if k'=k then(match mk i j with|some k2=>root k2|none=>(k',some (i,j)))else(k',some (i,j))
 |(k',none)=>(k',none)
def Gh.mv(G:Gh)(k b γ0:Nat)(mk:Nat→Nat→Option Nat):Gh:=
 {β:=fun key=>if key=root k then b else G.β (a1m k mk key)
  R:=fun key=>if key=root k then True else(key.2=none→¬a9k mk key.1)∧G.R (a1m k mk key)
  γ:=fun key=>if key=root k then γ0 else G.γ (a1m k mk key)
  σ:=fun key=>G.σ (a1m k mk key)
  Z:=G.Z}
section
variable{P:Program}{B:Nat}{Z0:Nat→Prop}{G G':Gh}{h h':l5}{w w':World}
theorem a5t{k':Nat}{y:Option (Nat×Nat)}(hk:k'≠k):a1m k mk (k',y)=(k',y):=by
 cases y with
 |none=>rfl
 |some ij=>obtain⟨i,j⟩:=ij;simp[a1m,hk]
theorem a2e(hm:mk i j=none):a1m k mk (nest k i j)=nest k i j:=by simp[a1m,hm]
theorem a2d{k2:Nat}(hm:mk i j=some k2):a1m k mk (nest k i j)=root k2:=by simp[a1m,hm]
theorem b1w{k':Nat}{y:Option (Nat×Nat)}(hk:k'≠k)(hm:y=none→¬a9k mk k'):B8 G (G.mv k b γ0 mk) (k',y):=by
 have hne:((k',y):Key)≠root k:=fun e=>hk (congrArg Prod.fst e);refine⟨?_,?_,?_,?_⟩
 . simp only[Gh.mv,if_neg hne,a5t hk]
 . simp only[Gh.mv,if_neg hne,a5t hk];exact⟨fun x=>x.2,fun x=>⟨hm,x⟩⟩
 . simp only[Gh.mv,if_neg hne,a5t hk]
 . simp only[Gh.mv,a5t hk]
theorem b3Y(hm:mk i j=none):B8 G (G.mv k b γ0 mk) (nest k i j):=by
 have hne:(nest k i j:Key)≠root k:=fun e=>by simp at e
 refine⟨?_,?_,?_,?_⟩<;>simp only[Gh.mv,if_neg hne,a2e hm]
 grind
theorem b9m{k2:Nat}(hm:mk i j=some k2):(G.mv k b γ0 mk).β (nest k i j)=G.β (root k2)∧((G.mv k b γ0 mk).R (nest k i j)↔G.R (root k2))∧(G.mv k b γ0 mk).γ (nest k i j)=G.γ (root k2)∧(G.mv k b γ0 mk).σ (nest k i j)=G.σ (root k2):=by
 have hne:(nest k i j:Key)≠root k:=fun e=>by simp at e
 refine⟨?_,?_,?_,?_⟩<;>simp only[Gh.mv,if_neg hne,a2d hm]
 grind
def a9O(G:Gh)(h:l5)(w:World)(k i j:Nat)(m:Option Nat)(u:Value)(c:PV):Prop:=
 match m with
 |some k2=>∃ns,c=.uslc ns∧N7 G w (root k2) u ns
 |none=>F9 G h w k i j u c
theorem b4m(hr:p7 B Z0 G h w){g s ver ver':Nat}{es es':List PV}{us':Array Value}{T:TypeId}(hh:h[k]?=some (g,.arr s ver false es))
 (hwhere:(G.R (root k)∧b=G.β (root k)∧γ0=G.γ (root k))∨(b=w.heap.size∧es.length<es'.length))
 (hnew:w'.heap[b]?=some (.cells us' T (0,0))) (hold:∀x,x<w.heap.size→x≠b→w'.heap[x]?=w.heap[x]?) (hsz:w.heap.size≤w'.heap.size)
 (hm1:∀i j k2,mk i j=some k2→k2≠k∧(∃g2,h[k2]?=some (g2,.dead))∧(G.R (root k2)→¬G.Z (G.β (root k2)))) (hm2:∀i j i' j' k2,mk i j=some k2→mk i' j'=some k2→i=i'∧j=j')
 (c1:us'.size=γ0*s) (c2:es'.length≤γ0) (c3:γ0≤maxLen) (c4:es.length≤es'.length) (c5:ver≤ver')
 (c6:ver'=ver→∀i j ns,cellAt es i j=some (.uslc ns)→∃ns',cellAt es' i j=some (.uslc ns')∧ns.length=ns'.length∧mk i j=none)
 (he:∀(i:Nat) e,es'[i]?=some e→(l6 e).length=s∧∀(j:Nat) c,(l6 e)[j]?=some c→∃u,us'[i*s+j]?=some u∧a9O G h w k i j (mk i j) u c):
 p7 B Z0 (G.mv k b γ0 mk) (h.set k (g,.arr s ver' false es')) w'∧Ext G h w (G.mv k b γ0 mk) (h.set k (g,.arr s ver' false es')) w':=by
 have hk:k<h.length:=(B4.1 hh).1;have hob:=hr.ob k g _ hh;unfold E5 at hob;obtain⟨o1,o2,o3,o4,o5⟩:=hob;have hbz:¬G.Z b:=by
  rcases hwhere with⟨h1,rfl,_⟩|⟨rfl,_⟩
  . exact hr.nz k g _ hh rfl none h1
  . intro hz;have:=(hr.zb _ hz).lt;omega
 have hbB:B≤b:=by
  rcases hwhere with⟨h1,rfl,_⟩|⟨rfl,_⟩
  . exact(hr.lv _ h1).1
  . exact hr.base
 have hbne:∀key,key≠root k→G.R key→G.β key≠b:=fun key hne hR e=>by
  rcases hwhere with⟨h1,rfl,_⟩|⟨rfl,_⟩
  . exact hne (hr.inj _ _ hR h1 e)
  . have:=(hr.lv _ hR).2.lt;omega
 have hbsame:∀key,key≠root k→G.R key→w'.heap[G.β key]?=w.heap[G.β key]?:=fun key hne hR=>hold _ (hr.lv _ hR).2.lt (hbne key hne hR);have hnm:¬a9k mk k:=fun⟨i,j,hm⟩=>(hm1 i j k hm).1 rfl;have hsame:∀k' y,k'≠k→b3h G (G.mv k b γ0 mk) h k' y:=fun k' y hkk=>by
  by_cases hmv:y=none∧a9k mk k'
  . obtain⟨rfl,i,j,hm⟩:=hmv;refine .inr ⟨fun hR=>?_,fun g' o' e=>?_⟩
    . have hne:((k',none):Key)≠root k:=fun e=>hkk (congrArg Prod.fst e);simp only[Gh.mv,if_neg hne]at hR;exact hR.1 trivial ⟨i,j,hm⟩
    . grind
  . exact .inl (b1w hkk fun e hm=>hmv ⟨e,hm⟩)
 have x:Ext G h w (G.mv k b γ0 mk) (h.set k (g,.arr s ver' false es')) w':=by
  refine⟨fun _ y=>y,fun x hx=>hold x (hr.zb x hx).lt fun e=>hbz (e▸hx),fun k' gn ob e=>?_⟩;by_cases hkk:k'=k
  . subst hkk;rw[hh]at e;cases e;refine⟨g,_,D7 hk,m0 _,fun _=>⟨fun sz' v' fr' e' he'=>?_,fun cs' e'=>(by cases e'),fun _ _ _ e'=>(by cases e')⟩⟩;cases he';refine⟨ver,false,es,rfl,c4,c5,fun hl=>?_,fun hv i j ns hc=>?_⟩
    . rcases hwhere with⟨h1,rfl,rfl⟩|⟨_,hlt⟩
      . refine⟨by simp[Gh.mv],by simp[Gh.mv,h1],by simp[Gh.mv],by simp[Gh.mv,a1m]⟩
      . omega
    . obtain⟨ns',q1,q2,q3⟩:=c6 hv i j ns hc;exact⟨ns',q1,q2,b3Y q3⟩
  . refine⟨gn,ob,by rw[D9 (Ne.symm hkk)];exact e,m0 _,fun _=>?_⟩;by_cases hd:ob=.dead
    . subst hd;exact K5.dead _ _
    . exact K5.refl k' ob ((hsame k' none hkk).resolve_right fun y=>hd (y.2 gn ob e)) fun i j=>b1w hkk fun e=>by cases e
 refine⟨hr.update k g _ hk x hsame (fun k' y hkk hR=>hbsame _ (fun e=>hkk (congrArg Prod.fst e)) hR) hsz (fun b' hb'=>(hr.zb b' hb').eq (x.zw b' hb')) (fun b hb=>.inl hb) (fun _ _ _ _ hn=>hn) ?_ (fun e=>by cases e) ?_,x⟩
 . intro y hR;cases y with
   |none=>
    have hβ:(G.mv k b γ0 mk).β (k,none)=b:=(by simp[Gh.mv]);rw[hβ];refine⟨hbB,V6.of hnew,fun _=>hbz,fun y' hR' e=>?_,fun k' y' hkk hR' e=>?_⟩
    . cases y' with
      |none=>rfl
      |some ij=>
       obtain⟨i,j⟩:=ij;exfalso;have hne:(nest k i j:Key)≠root k:=fun e=>(by simp at e);simp only[Gh.mv,if_neg hne]at hR' e;refine hbne _ (fun e2=>?_) hR'.2 e.symm;cases hmm:mk i j with
       |none=>rw[a2e hmm]at e2;exact hne e2
       |some k2=>rw[a2d hmm]at e2;exact(hm1 i j k2 hmm).1 (congrArg Prod.fst e2)
    . have hne:((k',y'):Key)≠root k:=fun e=>hkk (congrArg Prod.fst e);simp only[Gh.mv,if_neg hne,a5t hkk]at hR' e;exact hbne _ hne hR'.2 e.symm
   |some ij=>
    obtain⟨i,j⟩:=ij;have hne:(nest k i j:Key)≠root k:=fun e=>(by simp at e);have hβ:(G.mv k b γ0 mk).β (nest k i j)=G.β (a1m k mk (nest k i j)):=(by simp[Gh.mv]);simp only[Gh.mv,if_neg hne]at hR;obtain⟨_,hR⟩:=hR;have hsne:a1m k mk (nest k i j)≠root k:=fun e2=>by
     cases hmm:mk i j with
     |none=>rw[a2e hmm]at e2;exact hne e2
     |some k2=>rw[a2d hmm]at e2;exact(hm1 i j k2 hmm).1 (congrArg Prod.fst e2)
    show B≤(G.mv k b γ0 mk).β (nest k i j)∧_;rw[hβ];obtain⟨l1,l2⟩:=hr.lv _ hR;refine⟨l1,l2.eq (hbsame _ hsne hR),fun _=>?_,fun y' hR' e=>?_,fun k' y' hkk hR' e=>?_⟩
    . show¬G.Z _;cases hmm:mk i j with
      |none=>rw[a2e hmm]at hR⊢;exact hr.nz k g _ hh rfl _ hR
      |some k2=>rw[a2d hmm]at hR⊢;exact(hm1 i j k2 hmm).2.2 hR
    . cases y' with
      |none=>
       exfalso;have:(G.mv k b γ0 mk).β (k,none)=b:=(by simp[Gh.mv]);rw[this]at e;exact hbne _ hsne hR e
      |some ij'=>
       obtain⟨i',j'⟩:=ij';have hne':(nest k i' j':Key)≠root k:=fun e=>(by simp at e);have hβ':(G.mv k b γ0 mk).β (nest k i' j')=G.β (a1m k mk (nest k i' j')):=(by simp[Gh.mv]);simp only[Gh.mv,if_neg hne']at hR';have e':=hr.inj _ _ hR hR'.2 (e.trans hβ');cases hmm:mk i j with
       |none=>
        rw[a2e hmm]at e';cases hmm':mk i' j' with
        |none=>rw[a2e hmm']at e';exact congrArg Prod.snd e'
        |some k2=>rw[a2d hmm']at e';simp at e'
       |some k2=>
        rw[a2d hmm]at e';cases hmm':mk i' j' with
        |none=>rw[a2e hmm']at e';simp at e'
        |some k3=>
         rw[a2d hmm']at e';have:k2=k3:=congrArg Prod.fst e';subst this;obtain⟨rfl,rfl⟩:=hm2 i j i' j' k2 hmm hmm';rfl
    . have hne':((k',y'):Key)≠root k:=fun e=>hkk (congrArg Prod.fst e);simp only[Gh.mv,if_neg hne',a5t hkk]at hR' e;have e':=hr.inj _ _ hR hR'.2 (by simpa using e);cases hmm:mk i j with
      |none=>rw[a2e hmm]at e';exact hkk (congrArg Prod.fst e').symm
      |some k2=>
       rw[a2d hmm]at e';have h1:k2=k':=congrArg Prod.fst e';have h2:none=y':=congrArg Prod.snd e';subst h1;exact hR'.1 h2.symm ⟨i,j,hmm⟩
 . unfold E5;have hβ:(G.mv k b γ0 mk).β (root k)=b:=(by simp[Gh.mv]);have hγ:(G.mv k b γ0 mk).γ (root k)=γ0:=(by simp[Gh.mv]);have hRr:(G.mv k b γ0 mk).R (root k):=(by simp[Gh.mv]);rw[hβ,hγ];refine⟨o1,c2,c3,fun _=>⟨us',T,hnew,c1,fun i e hie=>?_⟩,fun hn=>absurd hRr hn⟩;obtain⟨q1,q2⟩:=he i e hie;refine⟨q1,fun j c hc=>?_⟩;obtain⟨u,q3,q4⟩:=q2 j c hc;refine⟨u,q3,?_⟩;cases hmm:mk i j with
   |none=>
    rw[hmm]at q4;exact F9.ext x (b3Y hmm) (fun hR=>hbsame _ (fun e=>by simp at e) hR) q4
   |some k2=>
    rw[hmm]at q4;obtain⟨ns,rfl,q5⟩:=q4;unfold F9;exact q5.ext x (b9m hmm) fun hR=>hbsame _ (fun e=>(hm1 i j k2 hmm).1 (congrArg Prod.fst e)) hR
end
end
section
variable{us:Array Value}{T:TypeId}{o k g j:Nat}{v:Value}
section
variable{P:Program}{B:Nat}{Z0:Nat→Prop}{G G':Gh}{h h':l5}{w w':World}
def Y8(us:Array Value)(o:Nat)(vs:List Value):Array Value:=(us.toList.take o++vs++us.toList.drop (o+vs.length)).toArray
theorem a6v{vs:List Value}(hl:o+vs.length≤us.size):(Y8 us o vs).size=us.size:=by simp[Y8];omega
theorem a3K{vs:List Value}(hl:o+vs.length≤us.size)(t:Nat):(Y8 us o vs)[t]?=if o≤t∧t<o+vs.length then vs[t-o]? else us[t]?:=by
 unfold Y8
 grind
theorem b0u{t:TypeId}{sz b:Nat}(hs:H8 P t=some sz)(hv:v.cells.size=sz)(h1:∀u∈v.cells.toList,u.oneCell'=true)(hb:w.heap[b]?=some (.cells us T (0,0)))(hl:o+sz≤us.size):
 (Instr.storeAt t (.pointer (some ⟨b,o,none⟩)) v).run P w=.ok () (w.setRow b (Y8 us o v.cells.toList)):=by
 obtain⟨i,hi,rfl⟩:=a1h hs;have hst:=run_storeCells_at P b o T v.cells.toList 0 us w hb (by grind) h1;simp only[a3t]at hst;simp[Instr.storeAt,Instr.sureAddr,storeVar,sizeOf,typeInfo,hi,hv,hst,Y8]
theorem b0w{R:Value→PV→Prop}{cs:List PV}(hR:∀u c,R u c→u.oneCell'=true)(hv:I6 R v.cells cs):∀u∈v.cells.toList,u.oneCell'=true:=by
 intro u hu;obtain⟨i,hi,rfl⟩:=a1F hu;have hi':i<cs.length:=by rw[←hv.1];simpa using hi
 obtain⟨u,h1,h2⟩:=hv.2 i _ (l9 hi')
 grind
theorem c7J(w:World)(b:Nat)(cs:Array Value){es:Array MapEntry}{c:Nat}(hb:w.heap[b]?=some (.map es c)):(w.setRow b cs).heap[b]?=w.heap[b]?:=by simp[World.setRow,b4G,hb]
theorem V6.setRow{w:World}{b g:Nat}{cs:Array Value}(h:V6 w b):V6 (w.setRow g cs) b:=by
 obtain⟨o,hb,hd⟩:=h;by_cases e:b=g
 . subst e;cases o<;>first|(simp[isD]at hd;done)|skip
   case cells us T x=>exact V6.of (setRow_heap w b us cs T x hb)
   case map es c=>exact⟨.map es c,by rw[c7J w b cs hb];exact hb,rfl⟩
 . exact⟨o,(setRow_other w g b cs e).trans hb,hd⟩
theorem c7A(hr:p7 B Z0 G h w){cs cs':List PV}{us':Array Value}(hh:h[k]?=some (g,.var cs))(hb:w.heap[G.β (root k)]?=some (.cells us T (0,0)))(hu:I6 (fun v c=>one c=true∧j8 G h w D v c) us' cs'):
 p7 B Z0 G (h.set k (g,.var cs')) (w.setRow (G.β (root k)) us')∧Ext G h w G (h.set k (g,.var cs')) (w.setRow (G.β (root k)) us'):=by
 have hk:k<h.length:=(B4.1 hh).1;have hob:=hr.ob k g _ hh;unfold E5 at hob;obtain⟨hR,_⟩:=hob;have x:Ext G h w G (h.set k (g,.var cs')) (w.setRow (G.β (root k)) us'):=by
  refine⟨fun _ y=>y,fun b hb'=>setRow_other w _ _ _ fun e=>hr.nz k g _ hh rfl none hR (e▸hb'),fun k' gn ob e=>?_⟩;by_cases hkk:k'=k
  . subst hkk;rw[hh]at e;cases e;refine⟨g,.var cs',D7 hk,m0 _,fun _=>⟨fun _ _ _ _ e'=>?_,fun cs'' e'=>⟨cs,rfl,B8.refl _ _⟩,fun _ _ _ e'=>(by cases e')⟩⟩;cases e'
  . exact⟨gn,ob,by rw[D9 (Ne.symm hkk)];exact e,m0 _,fun _=>K5.refl k' ob (B8.refl _ _) fun i j=>B8.refl _ _⟩
 refine⟨hr.update k g _ hk x (fun _ _ _=>.inl (B8.refl _ _)) (fun k' y hkk hR'=>setRow_other w _ _ _ fun e=>hkk (congrArg Prod.fst (hr.inj _ _ hR' hR e))) (by simp[World.setRow]) (fun b hb'=>(hr.zb b hb').eq (x.zw b hb')) (fun b hb=>.inl hb) (fun _ _ _ _ hn=>hn) (fun y hR'=>?_) (fun e=>by cases e) ?_,x⟩
 . obtain⟨b1,b2⟩:=hr.lv _ hR';exact⟨b1,b2.setRow,fun _=>hr.nz k g _ hh rfl y hR',fun y' hR2 e=>congrArg Prod.snd (hr.inj _ _ hR' hR2 e),fun k' y' hkk hR2 e=>hkk (congrArg Prod.fst (hr.inj _ _ hR' hR2 e)).symm⟩
 . unfold E5;exact⟨hR,us',T,setRow_heap w _ us us' T (0,0) hb,hu.mono fun v c y=>⟨y.1,y.2.ext x⟩⟩
theorem b6y(hr:p7 B Z0 G h w){s ver i:Nat}{es es':List PV}{ns ns':List PV}{e e':PV}{us':Array Value}(hh:h[k]?=some (g,.arr s ver false es))(he:es[i]?=some e)(hc:(l6 e)[j]?=some (.uslc ns))
 (hR:G.R (nest k i j)) (hb:w.heap[G.β (nest k i j)]?=some (.cells us T (0,0))) (hes:es'=es.set i e') (hec:l6 e'=(l6 e).set j (.uslc ns')) (hlen:ns'.length=ns.length) (hus:us'.size=us.size)
 (hn:∀(m:Nat) x,ns'[m]?=some x→(l6 x).length=G.σ (nest k i j)∧∀(l:Nat) c,(l6 x)[l]?=some c→one c=true∧∃v,us'[m*G.σ (nest k i j)+l]?=some v∧PR G.Z w v c):
 p7 B Z0 G (h.set k (g,.arr s ver false es')) (w.setRow (G.β (nest k i j)) us')∧Ext G h w G (h.set k (g,.arr s ver false es')) (w.setRow (G.β (nest k i j)) us'):=by
 subst hes;have hk:k<h.length:=(B4.1 hh).1;have hi:i<es.length:=(B4.1 he).1;have hj:j<(l6 e).length:=(B4.1 hc).1;have hcell:∀i0 j0,(i0=i∧j0=j)∨cellAt (es.set i e') i0 j0=cellAt es i0 j0:=fun i0 j0=>by
  by_cases h1:i0=i
  . subst h1;by_cases h2:j0=j
    . exact .inl ⟨rfl,h2⟩
    . right;simp only[cellAt,D7 hi,he,a5e,hec,D9 (Ne.symm h2)]
  . right;simp only[cellAt,D9 (Ne.symm h1)]
 have hnew:cellAt (es.set i e') i j=some (.uslc ns'):=by simp only[cellAt,D7 hi,a5e,hec,D7 hj]
 have hzn:¬G.Z (G.β (nest k i j)):=hr.nz k g _ hh rfl _ hR;have x:Ext G h w G (h.set k (g,.arr s ver false (es.set i e'))) (w.setRow (G.β (nest k i j)) us'):=by
  refine⟨fun _ y=>y,fun b hb'=>setRow_other w _ _ _ fun e=>hzn (e▸hb'),fun k' gn ob e0=>?_⟩;by_cases hkk:k'=k
  . subst hkk;rw[hh]at e0;cases e0;refine⟨g,_,D7 hk,m0 _,fun _=>⟨fun sz' v' fr' es' e'=>?_,fun cs' e'=>(by cases e'),fun _ _ _ e'=>(by cases e')⟩⟩;cases e';refine⟨ver,false,es,rfl,k7,m0 _,fun _=>B8.refl _ _,fun _ i0 j0 ns0 hc0=>?_⟩;rcases hcell i0 j0 with⟨rfl,rfl⟩|h1
    . have:cellAt es i0 j0=some (.uslc ns):=a4w he hc;rw[this]at hc0;cases hc0;exact⟨ns',hnew,i9,B8.refl _ _⟩
    . exact⟨ns0,h1.trans hc0,rfl,B8.refl _ _⟩
  . exact⟨gn,ob,by rw[D9 (Ne.symm hkk)];exact e0,m0 _,fun _=>K5.refl k' ob (B8.refl _ _) fun i j=>B8.refl _ _⟩
 have hbo:∀key,key≠nest k i j→G.R key→(w.setRow (G.β (nest k i j)) us').heap[G.β key]?=w.heap[G.β key]?:=fun key hne hR'=>setRow_other w _ _ _ fun e=>hne (hr.inj _ _ hR' hR e);have hob:=hr.ob k g _ hh;unfold E5 at hob;obtain⟨o1,o2,o3,o4,o5⟩:=hob;refine⟨hr.update k g _ hk x (fun _ _ _=>.inl (B8.refl _ _)) (fun k' y hkk hR'=>hbo _ (fun e=>hkk (congrArg Prod.fst e)) hR') (by simp[World.setRow]) (fun b hb'=>(hr.zb b hb').eq (x.zw b hb')) (fun b hb=>.inl hb) (fun _ _ _ _ hn=>hn) (fun y hR'=>?_) (fun e=>by cases e) ?_,x⟩
 . obtain⟨b1,b2⟩:=hr.lv _ hR';exact⟨b1,b2.setRow,fun _=>hr.nz k g _ hh rfl y hR',fun y' hR2 e=>congrArg Prod.snd (hr.inj _ _ hR' hR2 e),fun k' y' hkk hR2 e=>hkk (congrArg Prod.fst (hr.inj _ _ hR' hR2 e)).symm⟩
 . unfold E5;refine⟨o1,by simpa using o2,o3,fun hRr=>?_,fun hn'=>?_⟩
   . obtain⟨us0,T0,o6,o7,o8⟩:=o4 hRr;refine⟨us0,T0,by rw[hbo _ (fun e=>by simp at e) hRr];exact o6,o7,fun i0 e0 he0=>?_⟩;have hcr:∀j0 c0 u0,cellAt es i0 j0=some c0→¬(i0=i∧j0=j)→F9 G h w k i0 j0 u0 c0→F9 G (h.set k (g,.arr s ver false (es.set i e'))) (w.setRow (G.β (nest k i j)) us') k i0 j0 u0 c0:=fun j0 c0 u0 _ hne hcr=>
      hcr.ext x (B8.refl _ _) fun hR'=>hbo _ (fun e=>hne ⟨by simpa using congrArg (fun q:Key=>(q.2.map Prod.fst)) e,by simpa using congrArg (fun q:Key=>(q.2.map Prod.snd)) e⟩) hR'
     by_cases h1:i0=i
     . subst h1;rw[D7 hi]at he0;cases he0;obtain⟨o9,o10⟩:=o8 i0 e he;rw[hec];refine⟨by simpa using o9,fun j0 c0 hc0=>?_⟩;by_cases h2:j0=j
       . subst h2;rw[D7 hj]at hc0;cases hc0;obtain⟨u,o11,o12⟩:=o10 j0 _ hc;refine⟨u,o11,?_⟩;unfold F9 N7 at o12⊢;refine⟨fun _=>?_,fun hn'=>absurd hR hn'⟩;obtain⟨us1,T1,f,c,n1,n2,n3,n4,n5,n6,n7,n8,n9⟩:=o12.1 hR;rw[hb]at n6;cases n6;refine⟨us',T,f,c,by rw[hlen];exact n1,n2,by rw[hlen];exact n3,n4,n5,setRow_heap w _ us us' T (0,0) hb,by rw[hus];exact n7,n8,fun m y hy=>?_⟩;obtain⟨q1,q2⟩:=hn m y hy;refine⟨q1,fun l c hc'=>?_⟩;obtain⟨q3,v,q4,q5⟩:=q2 l c hc';exact⟨q3,v,q4,q5.mono x.zz x.zw⟩
       . rw[D9 (Ne.symm h2)]at hc0;obtain⟨u,o11,o12⟩:=o10 j0 c0 hc0;exact⟨u,o11,hcr j0 c0 u (a4w he hc0) (fun e=>h2 e.2) o12⟩
     . rw[D9 (Ne.symm h1)]at he0;obtain⟨o9,o10⟩:=o8 i0 e0 he0;refine⟨o9,fun j0 c0 hc0=>?_⟩;obtain⟨u,o11,o12⟩:=o10 j0 c0 hc0;exact⟨u,o11,hcr j0 c0 u (a4w he0 hc0) (fun e=>h1 e.1) o12⟩
   . have:=o5 hn';subst this;simp at hi
theorem b1z{e:PV}{ds:List PV}(hl:j+ds.length≤(l6 e).length)(h0:ds≠ [])(hd:∀d,ds=[d]→l6 e=[e]→l6 d=[d]):l6 (M4 e j ds)=a1S (l6 e) j ds:=by
 cases e
 case agg=>rfl
 all_goals
  simp only[l6,Z3,a7F]at hl
  match ds,h0,hl,hd with
  | [d],_,hl,hd=>
   simp at hl;subst hl;rw[show M4 _ 0 [d]=d from rfl,hd d rfl rfl];rfl
  |d::d'::ds,_,hl,_=>simp only[Z3]at hl;omega
theorem b9z{m:Option Nat}{u:Value}{d:PV}{i:Nat}(hc:a2R G h w m u d):a9O G h w k i j m u d:=by
 cases m with
 |none=>obtain⟨q1,q2⟩:=hc;cases d<;>first|(simp[one,T6]at q1;done)|(unfold a9O F9;exact⟨q1,q2⟩)
 |some k2=>exact hc
theorem a6a{w0 w:World}(hb:Bl B w0 w)(hBg:B≤g)(cs:Array Value){x:Nat×Nat}(hc:w.heap[g]?=some (.cells us T x)):Bl B w0 (w.setRow g cs):=
 hb.trans ⟨⟨rfl,rfl,rfl,by simp[World.setRow],fun k hk=>setRow_other w g k cs i9⟩,fun k o h1 h2=>by
  by_cases hk:k=g
  . subst hk;rw[hc]at h1;cases h1;cases h2
  . rw[setRow_other w g k cs hk];exact h1⟩
theorem b2S(hr:p7 B Z0 G h w){hide:List Nat}{t:TypeId}{sz:Nat}{a:Value}{pa pv:PV}{ws:List (Nat×Row)}(hs:H8 P t=some sz)(h0:sz≠0)(ha:j8 G h w D a pa)(hv:j8 G h w D v pv)
 (hk:a5d (l8 h hide) sz pa pv=some ws):Good P B Z0 G h w (do Instr.storeAt t a v;pure .skip) .uu ws:=by
 unfold a5d at hk;split at hk
 case isFalse=>cases hk
 rename_i hsz;cases pa<;>(try (simp at hk;done))<;>simp only[]at hk
 case ptr k g o=>
  split at hk
  . rename_i g' cs hlk;split at hk
    . rename_i hc;obtain⟨rfl,hle,hone⟩:=hc;simp only[p9]at hk;subst hk;have hh:=T9 hlk k7;unfold D at ha;unfold j8 at ha;obtain⟨b,rfl,gn,ob,h1,h2,h3⟩:=ha;rw[hh]at h1;cases h1;obtain rfl:=h3 rfl cs rfl;have hob:=hr.ob k _ _ hh;unfold E5 at hob;obtain⟨hR,us,T,h4,h5⟩:=hob;have hvc:=a4R hv hone;have hvs:v.cells.size=sz:=(by rw[hvc.1,hsz]);have hfit:o+v.cells.toList.length≤us.size:=(by rw[h5.1];simpa[hvs]using hle);have hrun:=b0u (P:=P) hs hvs (b0w (fun u c y=>a6L y.1 y.2) hvc) h4 (by rw[h5.1];exact hle);obtain⟨t1,t2⟩:=a9i (l6 pv) cs o i9;have hnew:I6 (fun v c=>one c=true∧j8 G h w D v c) (Y8 us o v.cells.toList) (a1S cs o (l6 pv)):=by
       refine⟨by rw[a6v hfit,t1,h5.1],fun i c hc=>?_⟩;rw[t2]at hc;rw[a3K hfit];have hlen:v.cells.toList.length=(l6 pv).length:=(by simp[hvc.1]);rw[hlen];split at hc
       . rename_i hr';rw[if_pos hr'];obtain⟨u,g1,g2⟩:=hvc.2 _ c hc;exact⟨u,by simpa using g1,g2⟩
       . rename_i hr';rw[if_neg hr'];exact h5.2 i c hc
      obtain⟨x1,x2⟩:=c7A hr hh h4 hnew;exact⟨_,undef,_,G,by simp[hrun],.inr ⟨rfl,rfl⟩,x1,x2,L3,a6a (Bl.refl _ _) (hr.lv _ hR).1 _ (by assumption)⟩
    . cases hk
  . cases hk
 case eptr k g gl s i j=>
  split at hk
  . rename_i g' s' ver fr es hlk;split at hk
    . rename_i hc;obtain⟨rfl,hgl,rfl,rfl⟩:=hc;split at hk
      . rename_i e he;split at hk
        . rename_i hle;split at hk
          . rename_i ds ks hemb;split at hk
            . cases hk
            . rename_i hkk;have hkk:k∉ks:=(by simpa using hkk);simp only[p9]at hk;subst hk;have hh:=T9 hlk k7;unfold D at ha;unfold j8 at ha;obtain⟨b,f,rfl,gn,ob,h1,h2,h3⟩:=ha;rw[hh]at h1;cases h1;obtain⟨_,h3⟩:=h3 rfl _ _ _ _ rfl;obtain⟨rfl,h4,hil⟩:=h3 hgl;have hf:=h4 rfl;subst hf;have hone:(l6 pv).all one=true:=by
               refine A8.2 fun c hc=>?_;have:∀{cs:List PV} {ds:List PV} {ks:List Nat},a2i (l8 h hide) cs=some (ds,ks)→∀c∈cs,one c=true:=by
                intro cs
                induction cs with
                |nil=>intro _ _ _ c hc;simp at hc
                |cons c0 cs ih=>
                 intro ds ks hk c hc;simp only[a2i]at hk;split at hk
                 . rename_i hc0 hcs0;rcases Z5.1 hc with rfl|hc
                   . cases c<;>first|rfl|(simp[a4z]at hc0)
                   . exact ih hcs0 c hc
                 . cases hk
               exact this hemb c hc
              have hvc:=a4R hv hone;have hvs:v.cells.size=sz:=(by rw[hvc.1,hsz]);obtain⟨G1,mk,e1,e2,e3,e4,e5,e6,e7⟩:=b4w (val:=fun t=>(v.cells[t]?).getD undef) hr (fun _ _=>rfl) (fun _ _ _ _ _ _=>rfl) (fun t c hc=>by obtain⟨u,q1,q2,q3⟩:=hvc.2 t c hc;rw[q1];exact⟨q2,q3⟩) hemb
              have hh1:=(e3.other k hkk).trans hh;obtain⟨hR,us,T,h5,h6,h7,h8⟩:=a3n e1 hh1 he;have hβ:G1.β (root k)=G.β (root k):=(by rw[e3.β]);rw[hβ]at h5;have hroom:i*s'+j+v.cells.toList.length≤us.size:=by have hob:=e1.ob k _ _ hh1;unfold E5 at hob;rw[h6];have:(i+1)*s'≤G1.γ (root k)*s':=Z4 _ i9;rw[Q9]at this;simp[hvs];omega
              have hrun:=b0u (P:=P) (o:=i*s'+j) hs hvs (b0w (fun u c y=>a6L y.1 y.2) hvc) h5 (by grind);have hdl:ds.length=sz:=(by rw[e4,hsz]);have hi:i<es.length:=i9;have hse:l6 (M4 e j ds)=a1S (l6 e) j ds:=b1z i9 (fun e0=>by rw[e0]at hdl;exact h0 hdl.symm) fun d hd _=>c0c (e5 0 d (by rw[hd];rfl));obtain⟨t1,t2⟩:=a9i ds (l6 e) j i9;obtain⟨x1,x2⟩:=b4m (w':=w.setRow (G.β (root k)) (Y8 us (i*s'+j) v.cells.toList)) (ver':=if(((l6 e).drop j).take sz).any I5||ds.any I5 then ver+1 else ver) (es':=es.set i (M4 e j ds)) (γ0:=G1.γ (root k)) (b:=G.β (root k))
               (mk:=fun a b=>if a=i∧j≤b then mk (b-j)else none) e1 hh1 (.inl ⟨hR,hβ.symm,rfl⟩) (setRow_heap w _ us _ T (0,0) h5) (fun x _ hx=>setRow_other w _ _ _ hx) k7
               (fun a b k2 hm=>by
                try dsimp only at hm
                split at hm
                . obtain⟨q1,q2⟩:=e6 _ _ hm;exact⟨fun e=>hkk (e▸q1),e3.dead k2 q1,fun hR2=>b5E hr e3 q1 (by rw[e3.R]at hR2;exact hR2)⟩
                . cases hm)
               (fun a b a' b' k2 hm hm'=>by
                try dsimp only at hm hm'
                split at hm
                . grind
                . cases hm)
               (by rw[a6v hroom];exact h6) (by
                have hob:=e1.ob k _ _ hh1;unfold E5 at hob;simpa using hob.2.1) (by
                have hob:=e1.ob k _ _ hh1;unfold E5 at hob;exact hob.2.2.1) k7 (by split<;>omega) (fun hver a b ns hcab=>by
                split at hver
                . omega
                . rename_i hU;simp only[a0P,not_or]at hU;obtain⟨u1,u2⟩:=hU;by_cases hai:a=i
                  . subst hai;simp only[cellAt,he,a5e]at hcab;by_cases hbj:j≤b∧b<j+ds.length
                    . exfalso;apply u1;refine a9x.2 ⟨.uslc ns,C8 (i:=b-j) ?_,rfl⟩;rw[a0O,if_pos i9,a3s,show j+(b-j)=b by omega];exact hcab
                    . refine⟨ns,?_,rfl,?_⟩
                      . simp only[cellAt,D7 hi,a5e,hse,t2,if_neg hbj];exact hcab
                      . split
                        . rename_i q;cases hmm:mk (b-j)with
                          |none=>rfl
                          |some k2=>exfalso;have:=(e6 _ _ hmm).2;omega
                        . rfl
                  . exact⟨ns,by simp only[cellAt,D9 (Ne.symm hai)];exact hcab,rfl,by simp[hai]⟩)
               (fun a ea hea=>by
                have hob:=e1.ob k _ _ hh1;by_cases hai:a=i
                . subst hai;rw[D7 hi]at hea;cases hea;rw[hse];refine⟨by rw[t1,h7],fun b c hc=>?_⟩;rw[t2]at hc;rw[a3K hroom];have hvl:v.cells.toList.length=ds.length:=(by grind);rw[hvl];split at hc
                  . rename_i hr';rw[if_pos i9];have hec:=e5 _ _ hc;have hlt:b-j<v.cells.size:=i9;refine⟨v.cells[b-j],by rw[show a*s'+b-(a*s'+j)=b-j by omega];simp[hlt],?_⟩;rw[show((v.cells[b-j]?).getD undef)=v.cells[b-j]by simp[hlt]]at hec;have hmk:(if a=a∧j≤b then mk (b-j)else none)=mk (b-j):=if_pos ⟨rfl,hr'.1⟩
                    try dsimp only
                    rw[hmk];exact b9z hec
                  . rename_i hr';rw[if_neg i9];obtain⟨u,q1,q2⟩:=h8 b c hc;refine⟨u,q1,?_⟩;have:(if a=a∧j≤b then mk (b-j)else none)=none:=by
                     split
                     . cases hmm:mk (b-j)with
                       |none=>rfl
                       |some k2=>exfalso;have:=(e6 _ _ hmm).2;omega
                     . rfl
                    try dsimp only
                    rw[this];exact q2
                . rw[D9 (Ne.symm hai)]at hea;obtain⟨_,us2,T2,p1,p2,p3,p4⟩:=a3n e1 hh1 hea;rw[hβ,h5]at p1;cases p1;refine⟨p3,fun b c hc=>?_⟩;obtain⟨u,q1,q2⟩:=p4 b c hc;have hz:(if a=i∧j≤b then mk (b-j)else none)=none:=if_neg fun q=>hai q.1
                  refine⟨u,?_,by try dsimp only
                                 rw[hz];exact q2⟩
                  rw[a3K hroom,if_neg ?_]
                  . exact q1
                  . have hvl:v.cells.toList.length=sz:=(by simpa using hvs);have hbs:b<s':=(by grind);rintro⟨z1,z2⟩;rcases b1M hai with hlt|hlt
                    . have:(a+1)*s'≤i*s':=Z4 _ i9;rw[Q9]at this;omega
                    . have:(i+1)*s'≤a*s':=Z4 _ i9;rw[Q9]at this;omega)
              refine⟨.skip,undef,w.setRow (G.β (root k)) (Y8 us (i*s'+j) v.cells.toList),G1.mv k (G.β (root k)) (G1.γ (root k)) (fun a b=>if a=i∧j≤b then mk (b-j)else none),by simp[hrun],.inr ⟨rfl,rfl⟩,?_,?_,L3,a6a (Bl.refl _ _) (hr.lv _ (by rw[e3.R]at hR;exact hR)).1 _ (by assumption)⟩
              . rw[a3x];exact x1
              . rw[a3x];exact e2.trans x2
          . cases hk
        . cases hk
      . cases hk
    . cases hk
  . cases hk
 case nptr k g ver s i j m l=>
  split at hk
  . rename_i g' s0 ver' fr es hlk;split at hk
    . rename_i hc;obtain⟨rfl,rfl,rfl⟩:=hc;split at hk
      . rename_i e he;split at hk
        . rename_i ns hns;split at hk
          . rename_i x hx;split at hk
            . rename_i hc2;obtain⟨hxs,hle,hpure⟩:=hc2;simp only[p9]at hk;subst hk;have hh:=T9 hlk k7;unfold D at ha;unfold j8 at ha;obtain⟨b,f,rfl,gn,ob,h1,h2,h3⟩:=ha;rw[hh]at h1;cases h1;obtain⟨_,h3⟩:=h3 rfl _ _ _ _ rfl;obtain⟨ns',hns',rfl,h4,hml⟩:=h3 rfl;rw[a4w he hns]at hns';cases hns';obtain⟨hR,us,T,h5,h6,h7,h8⟩:=a3n hr hh he;obtain⟨u0,h9,h10⟩:=h8 j _ hns;unfold F9 N7 at h10;have hRn:G.R (nest k i j):=(by grind);obtain⟨us2,T2,ff,cc,rfl,h10',h11,h12,h12',h13,h14,h15,h16⟩:=h10.1 hRn;obtain⟨h17,h18⟩:=h16 m x hx;have hσ:G.σ (nest k i j)=s:=(by rw[←h17,hxs]);have hf:=h4 hσ;subst hf;have hone:(l6 pv).all one=true:=A8.2 fun c hc=>a3U (A8.1 hpure c hc);have hvc:=a4R hv hone;have hvs:v.cells.size=sz:=(by rw[hvc.1,hsz]);have hm:m<ns.length:=(B4.1 hx).1;have hroom:m*s+l+v.cells.toList.length≤us2.size:=by
               rw[h14,hσ];have:(m+1)*s≤G.γ (nest k i j)*s:=Z4 _ i9;rw[Q9]at this;simp[hvs];omega
              have hrun:=b0u (P:=P) (o:=m*s+l) hs hvs (b0w (fun u c y=>a6L y.1 y.2) hvc) h13 (by grind);obtain⟨t1,t2⟩:=a9i (l6 pv) (l6 x) l i9;have hse:l6 (M4 x l (l6 pv))=a1S (l6 x) l (l6 pv):=b1z i9 (fun e0=>by rw[e0]at hsz;exact h0 hsz.symm) fun d hd _=>by have:d∈l6 pv:=(by rw[hd];simp);have:=A8.1 hpure d this;cases d<;>first|rfl|(simp[A6]at this)
              have hse2:l6 (M4 e j [.uslc (ns.set m (M4 x l (l6 pv)))])=(l6 e).set j (.uslc (ns.set m (M4 x l (l6 pv)))):=by have hj:=(B4.1 hns).1;rw[b1z I3 k7 (fun d hd _=>by simp at hd;subst hd;rfl)];rfl
              obtain⟨x1,x2⟩:=b6y (us':=Y8 us2 (m*s+l) v.cells.toList) hr hh he hns hRn h13 rfl hse2 k7 (a6v hroom) (fun a y hy=>by
               rw[hσ];by_cases ham:a=m
               . subst ham;rw[D7 hm]at hy;cases hy;rw[hse];refine⟨by rw[t1,hxs],fun t c hc=>?_⟩;rw[t2]at hc;rw[a3K hroom];have hvl:v.cells.toList.length=(l6 pv).length:=(by rw[hsz];simpa using hvs);rw[hvl];split at hc
                 . rename_i hr';rw[if_pos i9];obtain⟨u,q1,q2,q3⟩:=hvc.2 _ c hc;exact⟨q2,u,by rw[show a*s+t-(a*s+l)=t-l by omega];simpa using q1,a4D (A8.1 hpure c (C8 hc)) q3⟩
                 . rename_i hr';rw[if_neg i9];obtain⟨q1,u,q2,q3⟩:=h18 t c hc;exact⟨q1,u,by rw[←hσ];exact q2,q3⟩
               . rw[D9 (Ne.symm ham)]at hy;obtain⟨p1,p2⟩:=h16 a y hy;refine⟨by rw[p1,hσ],fun t c hc=>?_⟩;obtain⟨q1,u,q2,q3⟩:=p2 t c hc;refine⟨q1,u,?_,q3⟩;rw[a3K hroom,if_neg ?_,←hσ]
                 . exact q2
                 . have hvl:v.cells.toList.length=sz:=(by simpa using hvs);have hbs:t<s:=(by rw[←hσ,←p1];exact(B4.1 hc).1);rintro⟨z1,z2⟩;rcases b1M ham with hlt|hlt
                   . have:(a+1)*s≤m*s:=Z4 _ i9;rw[Q9]at this;omega
                   . have:(m+1)*s≤a*s:=Z4 _ i9;rw[Q9]at this;omega)
              exact⟨.skip,undef,_,G,by simp[hrun],.inr ⟨rfl,rfl⟩,x1,x2,L3,a6a (Bl.refl _ _) (hr.lv _ hRn).1 _ (by assumption)⟩
            . cases hk
          . cases hk
        . cases hk
      . cases hk
    . cases hk
  . cases hk
end
end
section
variable{P:Program}{B:Nat}{Z0:Nat→Prop}{G G':Gh}{h h':l5}{w w':World}
theorem b8d(hr:p7 B Z0 G h w){k g:Nat}{ob:Ob}(hh:h[k]?=some (g,ob)):p7 B Z0 G (h.set k (g,.dead)) w∧Ext G h w G (h.set k (g,.dead)) w:=by
 have hk:k<h.length:=(B4.1 hh).1;have x:Ext G h w G (h.set k (g,.dead)) w:=by
  refine⟨fun _ y=>y,fun _ _=>rfl,fun k' gn o e=>?_⟩;by_cases hkk:k'=k
  . subst hkk;rw[hh]at e;cases e;exact⟨g,.dead,D7 hk,m0 _,fun _=>K5.dead _ _⟩
  . exact⟨gn,o,by rw[D9 (Ne.symm hkk)];exact e,m0 _,fun _=>K5.refl k' o (B8.refl _ _) fun i j=>B8.refl _ _⟩
 refine⟨hr.update k g .dead hk x (fun _ _ _=>.inl (B8.refl _ _)) (fun _ _ _ _=>rfl) (m0 _) hr.zb (fun b hb=>.inl hb) (fun _ _ _ _ hn=>hn) (fun y hR=>?_) (fun e=>by cases e) trivial,x⟩;obtain⟨b1,b2⟩:=hr.lv _ hR;exact⟨b1,b2,fun e=>absurd e (by simp[a7x]),fun y' hR2 e=>congrArg Prod.snd (hr.inj _ _ hR hR2 e),fun k' y' hkk hR2 e=>hkk (congrArg Prod.fst (hr.inj _ _ hR hR2 e)).symm⟩
def Gh.a2l(G:Gh)(k:Nat):Gh:={G with Z:=fun b=>G.Z b∨∃ij,G.R (k,some ij)∧b=G.β (k,some ij),R:=fun key=>(key.1=k→key.2=none)∧G.R key}
theorem c0Y(hr:p7 B Z0 G h w){k g s ver:Nat}{fr:Bool}{es:List PV}(hh:h[k]?=some (g,.arr s ver fr es))(hp:es.all D4=true):
 p7 B Z0 (G.a2l k) (h.set k (g,.arr s (ver+1) fr (es.map B3))) w∧Ext G h w (G.a2l k) (h.set k (g,.arr s (ver+1) fr (es.map B3))) w:=by
 have hk:k<h.length:=(B4.1 hh).1;have hsame:∀k' y,k'≠k→B8 G (G.a2l k) (k',y):=fun k' y hkk=>⟨rfl,⟨fun x=>x.2,fun x=>⟨fun e=>absurd e hkk,x⟩⟩,rfl,rfl⟩
 have hroot:B8 G (G.a2l k) (root k):=⟨rfl,⟨fun x=>x.2,fun x=>⟨fun _=>rfl,x⟩⟩,rfl,rfl⟩
 have hob:=hr.ob k g _ hh;unfold E5 at hob;obtain⟨o1,o2,o3,o4,o5⟩:=hob;have x:Ext G h w (G.a2l k) (h.set k (g,.arr s (ver+1) fr (es.map B3))) w:=by
  refine⟨fun _ y=>.inl y,fun _ _=>rfl,fun k' gn ob e=>?_⟩;by_cases hkk:k'=k
  . subst hkk;rw[hh]at e;cases e;refine⟨g,_,D7 hk,m0 _,fun _=>⟨fun sz' v' fr' es' e'=>?_,fun cs' e'=>(by cases e'),fun _ _ _ e'=>(by cases e')⟩⟩;cases e';exact⟨ver,fr,es,rfl,k7,i9,fun _=>hroot,fun e=>i9⟩
  . exact⟨gn,ob,by rw[D9 (Ne.symm hkk)];exact e,m0 _,fun _=>K5.refl k' ob (hsame _ _ hkk) fun i j=>hsame _ _ hkk⟩
 refine⟨hr.update k g _ hk x (fun k' y hkk=>.inl (hsame k' y hkk)) (fun _ _ _ _=>rfl) (m0 _) ?_ (fun b hb=>hb.imp id fun⟨ij,h1,h2⟩=>h2▸(hr.lv _ h1).1) ?_ ?_ ?_ ?_,x⟩
 . rintro b (hb|⟨ij,hR,rfl⟩)
   . exact hr.zb b hb
   . exact(hr.lv _ hR).2
 . rintro k' y hkk hR hn (hb|⟨ij,hR2,he⟩)
   . exact hn hb
   . exact hkk (congrArg Prod.fst (hr.inj _ _ hR hR2 he))
 . intro y hR;obtain⟨b1,b2⟩:=hr.lv (k,y) hR.2;have hy:y=none:=hR.1 rfl;subst hy;refine⟨b1,b2,fun hl=>?_,fun y' hR' he=>congrArg Prod.snd (hr.inj _ _ hR.2 hR'.2 he),fun k' y' hkk hR' he=>hkk (congrArg Prod.fst (hr.inj _ _ hR.2 hR'.2 he)).symm⟩;rintro(hb|⟨ij,hR2,he⟩)
   . exact hr.nz k g _ hh hl none hR.2 hb
   . have:=hr.inj _ _ hR.2 hR2 he;simp at this
 . intro hfo y hR;exact .inl (hr.fz k g _ hh hfo y hR.2)
 . unfold E5;refine⟨o1,by rw[I8];exact o2,o3,fun hR=>?_,fun hn=>by rw[o5 fun y=>hn ⟨fun _=>rfl,y⟩];rfl⟩;obtain⟨us,T,o6,o7,o8⟩:=o4 hR.2;refine⟨us,T,o6,o7,fun i e he=>?_⟩;rw[H5]at he;obtain⟨e0,he0,rfl⟩:=C5.1 he;obtain⟨o9,o10⟩:=o8 i e0 he0;rw[a5p];refine⟨by simpa using o9,fun j c hc=>?_⟩;rw[H5]at hc;obtain⟨c0,hc0,rfl⟩:=C5.1 hc;obtain⟨u,o11,o12⟩:=o10 j c0 hc0;have hnr:(A6 c0||I5 c0)=true:=A8.1 (show(l6 e0).all (fun c=>A6 c||I5 c)=true from A8.1 hp e0 (C8 he0)) c0 (C8 hc0);obtain⟨o13,o14⟩:=a6W (Z':=(G.a2l k).Z) (fun b hb=>.inl hb) (fun hR'=>.inr ⟨(i,j),hR',rfl⟩) hnr o12;refine⟨u,o11,?_⟩;have hv:=a1y (G:=G.a2l k) (h:=h.set k (g,.arr s (ver+1) fr (es.map B3))) o13 o14;revert o13 hv;cases M1 c0<;>intro o13 hv<;>first|(simp[one,T6]at o13;done)|(unfold F9;exact⟨o13,hv⟩)
def Gh.a2f(G:Gh)(k:Nat):Gh:={G with Z:=fun b=>G.Z b∨∃y,G.R (k,y)∧b=G.β (k,y),R:=fun key=>(key.1=k→key.2=none)∧G.R key}
theorem b2y(hr:p7 B Z0 G h w){k g s ver:Nat}{fr:Bool}{es:List PV}(hh:h[k]?=some (g,.arr s ver fr es))(hp:es.all D4=true):
 p7 B Z0 (G.a2f k) (h.set k (g,.arr s (ver+1) true (es.map B3))) w∧Ext G h w (G.a2f k) (h.set k (g,.arr s (ver+1) true (es.map B3))) w:=by
 have hk:k<h.length:=(B4.1 hh).1;have hsame:∀k' y,k'≠k→B8 G (G.a2f k) (k',y):=fun k' y hkk=>⟨rfl,⟨fun x=>x.2,fun x=>⟨fun e=>absurd e hkk,x⟩⟩,rfl,rfl⟩
 have hroot:B8 G (G.a2f k) (root k):=⟨rfl,⟨fun x=>x.2,fun x=>⟨fun _=>rfl,x⟩⟩,rfl,rfl⟩
 have hob:=hr.ob k g _ hh;unfold E5 at hob;obtain⟨o1,o2,o3,o4,o5⟩:=hob;have x:Ext G h w (G.a2f k) (h.set k (g,.arr s (ver+1) true (es.map B3))) w:=by
  refine⟨fun _ y=>.inl y,fun _ _=>rfl,fun k' gn ob e=>?_⟩;by_cases hkk:k'=k
  . subst hkk;rw[hh]at e;cases e;refine⟨g,_,D7 hk,m0 _,fun _=>⟨fun sz' v' fr' es' e'=>?_,fun cs' e'=>(by cases e'),fun _ _ _ e'=>(by cases e')⟩⟩;cases e';exact⟨ver,fr,es,rfl,k7,i9,fun _=>hroot,fun e=>i9⟩
  . exact⟨gn,ob,by rw[D9 (Ne.symm hkk)];exact e,m0 _,fun _=>K5.refl k' ob (hsame _ _ hkk) fun i j=>hsame _ _ hkk⟩
 refine⟨hr.update k g _ hk x (fun k' y hkk=>.inl (hsame k' y hkk)) (fun _ _ _ _=>rfl) (m0 _) ?_ (fun b hb=>hb.imp id fun⟨ij,h1,h2⟩=>h2▸(hr.lv _ h1).1) ?_ ?_ ?_ ?_,x⟩
 . rintro b (hb|⟨ij,hR,rfl⟩)
   . exact hr.zb b hb
   . exact(hr.lv _ hR).2
 . rintro k' y hkk hR hn (hb|⟨ij,hR2,he⟩)
   . exact hn hb
   . exact hkk (congrArg Prod.fst (hr.inj _ _ hR hR2 he))
 . intro y hR;obtain⟨b1,b2⟩:=hr.lv (k,y) hR.2;have hy:y=none:=hR.1 rfl;subst hy;exact⟨b1,b2,fun hl=>by(simp[a7x]at hl),fun y' hR' he=>congrArg Prod.snd (hr.inj _ _ hR.2 hR'.2 he),fun k' y' hkk hR' he=>hkk (congrArg Prod.fst (hr.inj _ _ hR.2 hR'.2 he)).symm⟩
 . intro hfo y hR;exact .inr ⟨y,hR.2,rfl⟩
 . unfold E5;refine⟨o1,by rw[I8];exact o2,o3,fun hR=>?_,fun hn=>by rw[o5 fun y=>hn ⟨fun _=>rfl,y⟩];rfl⟩;obtain⟨us,T,o6,o7,o8⟩:=o4 hR.2;refine⟨us,T,o6,o7,fun i e he=>?_⟩;rw[H5]at he;obtain⟨e0,he0,rfl⟩:=C5.1 he;obtain⟨o9,o10⟩:=o8 i e0 he0;rw[a5p];refine⟨by simpa using o9,fun j c hc=>?_⟩;rw[H5]at hc;obtain⟨c0,hc0,rfl⟩:=C5.1 hc;obtain⟨u,o11,o12⟩:=o10 j c0 hc0;have hnr:(A6 c0||I5 c0)=true:=A8.1 (show(l6 e0).all (fun c=>A6 c||I5 c)=true from A8.1 hp e0 (C8 he0)) c0 (C8 hc0);obtain⟨o13,o14⟩:=a6W (Z':=(G.a2f k).Z) (fun b hb=>.inl hb) (fun hR'=>.inr ⟨some (i,j),hR',rfl⟩) hnr o12;refine⟨u,o11,?_⟩;have hv:=a1y (G:=G.a2f k) (h:=h.set k (g,.arr s (ver+1) true (es.map B3))) o13 o14;revert o13 hv;cases M1 c0<;>intro o13 hv<;>first|(simp[one,T6]at o13;done)|(unfold F9;exact⟨o13,hv⟩)
structure Src(G:Gh)(h:l5)(w:World)(vx:Value)(sz:Nat)(news:List PV)(V:Nat→Value)(mk:Nat→Nat→Option Nat):Prop where
 shape:∃a c,vx=.slice a news.length c∧(news.length=0∨∃b f,a=some ⟨b,f,none⟩∧∀q,q<news.length*sz→w.cell? ⟨b,f+q,none⟩=some (V q))
 cells:∀(i:Nat) d,news[i]?=some d→(l6 d).length=sz∧∀(t:Nat) c,(l6 d)[t]?=some c→a2R G h w (mk i t) (V (i*sz+t)) c
theorem div_lt{q n sz:Nat}(hq:q<n*sz):q/sz<n:=by
 rcases Nat.eq_zero_or_pos sz with rfl|h0
 . omega
 . exact(Nat.div_lt_iff_lt_mul h0).2 hq
theorem a5m{vx:Value}{sz:Nat}{news:List PV}{a:Option Addr}{c b f:Nat}(hx:vx=.slice a news.length c)(ha:news.length=0∨a=some ⟨b,f,none⟩)
 (hc:∀(i:Nat) d,news[i]?=some d→(l6 d).length=sz∧∀(t:Nat) x,(l6 d)[t]?=some x→∃u,w.cell? ⟨b,f+(i*sz+t),none⟩=some u∧one x=true∧j8 G h w D u x):
 Src G h w vx sz news (fun q=>(w.cell? ⟨b,f+q,none⟩).getD undef) (fun _ _=>none):=by
 refine⟨⟨a,c,hx,ha.imp id fun e=>⟨b,f,e,fun q hq=>?_⟩⟩,fun i d hd=>⟨(hc i d hd).1,fun t x hx'=>?_⟩⟩
 . have hn:=div_lt hq;obtain⟨d,hd⟩:∃d,news[q/sz]?=some d:=⟨news[q/sz],l9 hn⟩
   obtain⟨h1,h2⟩:=hc _ d hd;have h0:0<sz:=(by grind);have hm:q%sz<(l6 d).length:=(by rw[h1];exact Nat.mod_lt _ h0);obtain⟨u,h3,_⟩:=h2 (q%sz) _ (l9 hm);rw[show q/sz*sz+q%sz=q by rw[Nat.mul_comm];exact Nat.div_add_mod q sz]at h3;rw[h3];rfl
 . obtain⟨u,h3,h4,h5⟩:=(hc i d hd).2 t x hx';show a2R G h w none ((w.cell? ⟨b,f+(i*sz+t),none⟩).getD undef) x;rw[h3];exact⟨h4,h5⟩
theorem c3L{c:PV}(hp:A6 c=true):M1 c=c:=by cases c<;>first|rfl|(simp[A6]at hp)
theorem c1u{e:PV}(hp:(l6 e).all A6=true):B3 e=e:=by
 cases e
 case agg cs=>
  show PV.agg (cs.map M1)=.agg cs;congr 1
  conv=>rhs;rw[←List.map_id cs]
  exact L9 fun c hc=>c3L (A8.1 hp c hc)
 case uslc=>simp[l6,A6]at hp
 case nils=>simp[l6,A6]at hp
 all_goals rfl
theorem a3y{sz:Nat}{news:List PV}(hz:a2w sz news=true){i:Nat}{d:PV}(hd:news[i]?=some d):(l6 d).length=sz:=by have:=A8.1 hz d (C8 hd);simpa using this
theorem b1W(hr:p7 B Z0 G h w){hide:List Nat}{mode sz:Nat}{vx:Value}{px:PV}{news:List PV}{ws:List (Nat×Row)}(hm4:mode≠4∧mode≠5)(hv:j8 G h w D vx px)(hz:a2w sz news=true)(hk:a1q (l8 h hide) mode px=some (news,ws)):
 ∃G1 V mk,p7 B Z0 G1 (m6 h ws) w∧Ext G h w G1 (m6 h ws) w∧Src G1 (m6 h ws) w vx sz news V mk∧(∀k,k∉ws.map (·.1)→(m6 h ws)[k]?=h[k]?)∧
  (∀i t k2,mk i t=some k2→i<news.length∧k2∈ws.map (·.1)∧(∃g2,(m6 h ws)[k2]?=some (g2,.dead))∧(G1.R (root k2)→¬G1.Z (G1.β (root k2))))∧(∀i t i' t' k2,mk i t=some k2→mk i' t'=some k2→i=i'∧t=t')∧
  (∀k,k∉ws.map (·.1)→(G1.R (root k)↔G.R (root k))∧G1.β (root k)=G.β (root k)∧G1.γ (root k)=G.γ (root k)):=by
 have triv:∀{V},ws=[]→Src G h w vx sz news V (fun _ _=>none)→∃G1 V mk,p7 B Z0 G1 (m6 h ws) w∧Ext G h w G1 (m6 h ws) w∧Src G1 (m6 h ws) w vx sz news V mk∧(∀k,k∉ws.map (·.1)→(m6 h ws)[k]?=h[k]?)∧
  (∀i t k2,mk i t=some k2→i<news.length∧k2∈ws.map (·.1)∧(∃g2,(m6 h ws)[k2]?=some (g2,.dead))∧(G1.R (root k2)→¬G1.Z (G1.β (root k2))))∧(∀i t i' t' k2,mk i t=some k2→mk i' t'=some k2→i=i'∧t=t')∧
  (∀k,k∉ws.map (·.1)→(G1.R (root k)↔G.R (root k))∧G1.β (root k)=G.β (root k)∧G1.γ (root k)=G.γ (root k)):=fun{V} e hs=>by
  subst e;exact⟨G,V,fun _ _=>none,hr,Ext.refl,hs,fun _ _=>rfl,fun _ _ _ e=>absurd e k7,fun _ _ _ _ _ e=>absurd e k7,fun _ _=>⟨Iff.rfl,rfl,rfl⟩⟩
 unfold a1q at hk;rw[if_neg hm4.1,if_neg hm4.2]at hk;cases px<;>(try (simp[a2z]at hk;done))
 case slc es=>
  simp only[a2z,p9,s6]at hk;obtain⟨rfl,rfl⟩:=hk;obtain⟨a,c,sz0,rfl,h2,h3,h4,h5⟩:=PR.U2.1 (a2M hv);by_cases hn:es.length=0
  . exact triv rfl (a5m (b:=0) (f:=0) rfl (.inl hn) fun i d hd=>by rw[a0Q.1 hn]at hd;simp at hd)
  . obtain⟨e0,he0⟩:∃e,es[0]?=some e:=⟨es[0],l9 i9⟩
    obtain⟨h6,b,o,rfl,_⟩:=h5 0 e0 he0;refine triv rfl (a5m (b:=b) (f:=o) rfl (.inr rfl) fun i d hd=>⟨a3y hz hd,fun t x hx=>?_⟩);obtain⟨h7,b',o',e1,h8,h9⟩:=h5 i d hd;cases e1;obtain⟨h10,u,h11,h12⟩:=h9 t x hx;exact⟨u,by rw[←a3y hz hd,h7];exact h11,h10,a1y h10 h12⟩
 case lst es=>
  simp only[a2z]at hk;split at hk
  . rename_i hl;simp only[p9,s6]at hk;obtain⟨rfl,rfl⟩:=hk;unfold D at hv;unfold j8 at hv;obtain⟨a,c,rfl,_⟩:=hv;exact triv rfl (a5m (b:=0) (f:=0) (a:=some a) (c:=c) (by rw[hl];rfl) (.inl rfl) fun i d hd=>by simp at hd)
  . cases hk
 case nils=>
  simp only[a2z,p9,s6]at hk;obtain⟨rfl,rfl⟩:=hk;obtain rfl:=Z7 hv;exact triv rfl (a5m (b:=0) (f:=0) (a:=none) (c:=0) rfl (.inl rfl) fun i d hd=>by simp at hd)
 case own k g gl s o l=>
  simp only[a2z]at hk;split at hk
  . rename_i g' s' ver fr es hlk;split at hk
    . rename_i hc;obtain⟨rfl,hgl,rfl,hol⟩:=hc;have hh:=T9 hlk k7;have hob:=hr.ob k _ _ hh;unfold E5 at hob;obtain⟨o1,o2,o3,o4,o5⟩:=hob;unfold D at hv;unfold j8 at hv;obtain⟨a,c,rfl,q1,q2,q3,gn,ob,q4,q5,q6⟩:=hv;rw[hh]at q4;cases q4;obtain⟨_,q7⟩:=q6 rfl _ _ _ _ rfl;obtain⟨_,q8,q9⟩:=q7 hgl;have hsub:((es.drop o).take l).length=l:=I3;have hcells:l=0∨∃f us T,G.R (root k)∧a=some ⟨G.β (root k),f,none⟩∧(f=o*s')∧w.heap[G.β (root k)]?=some (.cells us T (0,0))∧us.size=G.γ (root k)*s'∧∀(i:Nat) e,es[i]?=some e→(l6 e).length=s'∧∀(j:Nat) c,(l6 e)[j]?=some c→∃u,us[i*s'+j]?=some u∧F9 G h w k i j u c:=(by grind);split at hk
      ·
       split at hk
       . rename_i ds ks hemb;split at hk
         . cases hk
         . rename_i hkk;have hkk:k∉ks:=(by simpa using hkk);simp only[p9,s6]at hk;obtain⟨rfl,rfl⟩:=hk;have hlive:∀(i:Nat) e,((es.drop o).take l)[i]?=some e→∀(t:Nat) c,(l6 e)[t]?=some c→one c=true∧j8 G h w D ((w.cell? ⟨G.β (root k),(o+i)*s'+t,none⟩).getD undef) c:=fun i e he t c hc=>by
            have hil:i<l:=(by grind);rw[a0O,if_pos hil,a3s]at he;obtain⟨f,us,T,hR,_,_,o6,o7,o8⟩:=hcells.resolve_left i9;obtain⟨u,o11,o12⟩:=(o8 _ e he).2 t c hc;rw[a0U o6,o11];have hone:one c=true:=by
             have:∀{cs:List PV} {ds:List PV} {ks:List Nat},a2i (l8 h hide) cs=some (ds,ks)→∀c∈cs,one c=true:=by
              intro cs
              induction cs with
              |nil=>intro _ _ _ c hc;simp at hc
              |cons c0 cs ih=>
               intro ds ks hk c hc;simp only[a2i]at hk;split at hk
               . rename_i hc0 hcs0;rcases Z5.1 hc with rfl|hc
                 . cases c<;>first|rfl|(simp[a4z]at hc0)
                 . exact ih hcs0 c hc
               . cases hk
             have h2:∀{es ds:List PV} {ks:List Nat},a3T (l8 h hide) es=some (ds,ks)→∀e∈es,∃ds ks,a2i (l8 h hide) (l6 e)=some (ds,ks):=by
              intro es
              induction es with
              |nil=>intro _ _ _ c hc;simp at hc
              |cons c0 cs ih=>
               intro ds ks hk c hc;simp only[a3T]at hk;split at hk
               . rename_i hc0 hcs0;rcases Z5.1 hc with rfl|hc
                 . unfold a6H at hc0;split at hc0
                   . exact⟨_,_,by assumption⟩
                   . cases hc0
                 . exact ih hcs0 c hc
               . cases hk
             have hmem:e∈(es.drop o).take l:=C8 (i:=i) (by grind);obtain⟨ds',ks',h3⟩:=h2 hemb e hmem;exact this h3 c (C8 hc)
            cases c<;>first|(simp[one,T6]at hone;done)|(unfold F9 at o12;exact o12)
           obtain⟨G1,mk,e1,e2,e3,e4,e5,e6,e7⟩:=c0t (val:=fun i t=>(w.cell? ⟨G.β (root k),(o+i)*s'+t,none⟩).getD undef) hr (fun _ _=>rfl) (fun _ _ _ _ _ _=>rfl) hlive hemb;obtain⟨x1,x2⟩:=b8d e1 ((e3.other k hkk).trans hh);have hupd:m6 h (kill (l8 h hide) (ks++[k]))=(m6 h (kill (l8 h hide) ks)).set k (g',.dead):=by rw[b2L,a3x];simp[m6,kill,hlk]
           have hw1:(kill (l8 h hide) (ks++[k])).map (·.1)=ks++[k]:=(by simp[kill,Function.comp_def]);rw[hupd,hw1];have hlen:ds.length=l:=(by rw[e4,hsub]);refine⟨G1,fun q=>(w.cell? ⟨G.β (root k),o*s'+q,none⟩).getD undef,mk,x1,e2.trans x2,?_,?_,?_,e7,?_⟩
           . refine⟨⟨a,c,by rw[hlen],?_⟩,fun i d hd=>?_⟩
             . rw[hlen];by_cases hl0:l=0
               . exact .inl hl0
               . right
                 obtain⟨f,us,T,hR,e8,hf,o6,o7,o8⟩:=hcells.resolve_left hl0;obtain⟨d0,hd0⟩:∃d,ds[0]?=some d:=⟨ds[0],l9 i9⟩
                 have hss:sz=s':=by
                  rw[←a3y hz hd0];obtain⟨e9,he9⟩:∃e,((es.drop o).take l)[0]?=some e:=⟨((es.drop o).take l)[0],l9 i9⟩
                  rw[(e5 0 d0 e9 hd0 he9).1];rw[a0O,if_pos i9,a3s]at he9;exact(o8 _ e9 he9).1
                 refine⟨_,f,e8,fun q hq=>?_⟩;rw[hf,a0U o6];have hlt:o*s'+q<us.size:=by rw[o7];have h9:(o+l)*s'≤G.γ (root k)*s':=Z4 _ i9;rw[Q9]at h9;rw[hss]at hq;omega
                 simp[hlt]
             . refine⟨a3y hz hd,fun t cc hcc=>?_⟩;have hil:i<l:=(by rw[←hlen];exact(B4.1 hd).1);obtain⟨e9,he9⟩:∃e,((es.drop o).take l)[i]?=some e:=⟨((es.drop o).take l)[i],l9 i9⟩
               obtain⟨q10,q11⟩:=e5 i d e9 hd he9;rw[a0O,if_pos hil,a3s]at he9;obtain⟨f,us,T,hR,e8,hf,o6,o7,o8⟩:=hcells.resolve_left i9;have hss:sz=s':=(by rw[←a3y hz hd,q10];exact(o8 _ e9 he9).1);have hec:=q11 t cc hcc;rw[show(o+i)*s'+t=o*s'+(i*sz+t)by rw[hss,Q9];omega]at hec;refine hec.ext x2 (fun k2 hm=>B8.refl _ _) (fun k2 hm _=>rfl)
           . intro k' hk';simp only[G7,F7,not_or]at hk';rw[D9 (Ne.symm hk'.2)];exact e3.other k' hk'.1
           . intro i t k2 hm;obtain⟨p1,p2⟩:=e6 i t k2 hm;have hne:k2≠k:=fun e=>hkk (e▸p1);refine⟨p2,by simp[p1],?_,fun hR2=>b5E hr e3 p1 (by rw[e3.R]at hR2;exact hR2)⟩;obtain⟨g2,hg2⟩:=e3.dead k2 p1;exact⟨g2,by rw[D9 (Ne.symm hne)];exact hg2⟩
           . intro k' hk';simp only[G7,F7,not_or]at hk';obtain⟨p1,p2,p3,_⟩:=e3.same k' none hk'.1;exact⟨p2,p1,p3⟩
       . cases hk
      . split at hk
        . rename_i hno;obtain⟨hno,_⟩:=hno;simp only[p9,s6]at hk;obtain⟨rfl,hws⟩:=hk;have hlen:(((es.drop o).take l).map B3).length=l:=I3;have hget:∀(i:Nat) d,(((es.drop o).take l).map B3)[i]?=some d→∃e,es[o+i]?=some e∧d=B3 e∧i<l:=fun i d hd=>by
           have hil:i<l:=(by rw[←hlen];exact(B4.1 hd).1);rw[H5,a0O,if_pos hil,a3s]at hd;obtain⟨e,he,rfl⟩:=C5.1 hd;exact⟨e,he,rfl,hil⟩
          have hss:∀{i:Nat} {e:PV},es[o+i]?=some e→i<l→sz=s':=fun{i e} he hil=>by
           obtain⟨f,us,T,hR,e8,hf,o6,o7,o8⟩:=hcells.resolve_left i9;have hd:(((es.drop o).take l).map B3)[i]?=some (B3 e):=by rw[H5,a0O,if_pos hil,a3s,he];rfl
           rw[←a3y hz hd,a5p,I8];exact(o8 _ e he).1
          split at hws
          . rename_i hpure;subst hws;refine triv rfl (a5m (b:=G.β (root k)) (f:=o*s') (a:=a) (c:=c) (by rw[hlen]) ?_ fun i d hd=>⟨a3y hz hd,fun t x hx=>?_⟩)
            . rw[hlen];by_cases hl0:l=0
              . exact .inl hl0
              . obtain⟨f,us,T,hR,e8,hf,o6,o7,o8⟩:=hcells.resolve_left hl0;exact .inr (by rw[e8,hf])
            . obtain⟨e,he,rfl,hil⟩:=hget i d hd;obtain⟨f,us,T,hR,e8,hf,o6,o7,o8⟩:=hcells.resolve_left i9;rw[c1u (A8.1 hpure e (C8 he))]at hx;obtain⟨u,o11,o12⟩:=(o8 _ e he).2 t x hx;have hpx:A6 x=true:=A8.1 (A8.1 hpure e (C8 he)) x (C8 hx);have hone:=a3U hpx;refine⟨u,?_,hone,?_⟩
              . rw[a0U o6,hss he hil,show o*s'+(i*s'+t)=(o+i)*s'+t by rw[Q9];omega];exact o11
              . cases x<;>first|(simp[A6]at hpx;done)|(unfold F9 at o12;exact o12.2)
          . subst hws;obtain⟨x1,x2⟩:=c0Y hr hh hno;refine⟨G.a2l k,_,fun _ _=>none,x1,x2,a5m (b:=G.β (root k)) (f:=o*s') (a:=a) (c:=c) (by rw[hlen]) ?_ (fun i d hd=>⟨a3y hz hd,fun t x hx=>?_⟩),fun k' hk'=>?_,fun _ _ _ e=>absurd e k7,fun _ _ _ _ _ e=>absurd e k7,fun k' hk'=>?_⟩
            . rw[hlen];by_cases hl0:l=0
              . exact .inl hl0
              . obtain⟨f,us,T,hR,e8,hf,o6,o7,o8⟩:=hcells.resolve_left hl0;exact .inr (by rw[e8,hf])
            . obtain⟨e,he,rfl,hil⟩:=hget i d hd;have hnew:(h.set k (g',Ob.arr s' (ver+1) fr (es.map B3)))[k]?=some (g',Ob.arr s' (ver+1) fr (es.map B3)):=D7 (B4.1 hh).1;have he':(es.map B3)[o+i]?=some (B3 e):=(by rw[H5,he];rfl);obtain⟨_,us,T,p1,p2,p3,p4⟩:=a3n x1 hnew he';obtain⟨u,p5,p6⟩:=p4 t x hx;have hpx:A6 x=true:=by
               rw[a5p,H5]at hx;obtain⟨c0,hc0,rfl⟩:=C5.1 hx;have hnr:(A6 c0||I5 c0)=true:=A8.1 (show(l6 e).all (fun c=>A6 c||I5 c)=true from A8.1 hno e (C8 he)) c0 (C8 hc0);cases c0<;>first|rfl|(simp[A6,I5]at hnr)
              refine⟨u,?_,a3U hpx,?_⟩
              . rw[a0U (show w.heap[G.β (root k)]?=_ from p1),hss he hil,show o*s'+(i*s'+t)=(o+i)*s'+t by rw[Q9];omega];exact p5
              . cases x<;>first|(simp[A6]at hpx;done)|(unfold F9 at p6;exact p6.2)
            . simp at hk';exact D9 (Ne.symm hk')
            . simp at hk';exact⟨⟨fun x=>x.2,fun x=>⟨fun _=>rfl,x⟩⟩,rfl,rfl⟩
        . cases hk
    . cases hk
  . cases hk
 case nown k g ver i j o l=>
  simp only[a2z]at hk;split at hk
  . rename_i g' s0 ver' fr es hlk;split at hk
    . rename_i hc;obtain⟨rfl,rfl⟩:=hc;split at hk
      . rename_i e he;split at hk
        . rename_i ns hns;split at hk
          . rename_i ho;obtain⟨rfl,hl⟩:=ho;simp only[p9,s6]at hk;obtain⟨rfl,rfl⟩:=hk;have hh:=T9 hlk k7;unfold D at hv;unfold j8 at hv;obtain⟨a,c,rfl,q1,q2,q3,gn,ob,q4,q5,q6⟩:=hv;rw[hh]at q4;cases q4;obtain⟨_,q7⟩:=q6 rfl _ _ _ _ rfl;obtain⟨ns',hns',q8,q9,q10⟩:=q7 rfl;rw[a4w he hns]at hns';cases hns';have hlen:(ns.take l).length=l:=I3;by_cases hl0:l=0
            . subst hl0;exact triv rfl (a5m (b:=0) (f:=0) (a:=a) (c:=c) k7 (.inl k7) fun i d hd=>by simp at hd)
            . obtain⟨hR,us,T,h5,h6,h7,h8⟩:=a3n hr hh he;obtain⟨u0,h9,h10⟩:=h8 j _ hns;unfold F9 N7 at h10;have hRn:G.R (nest k i j):=Classical.byContradiction fun hc=>by
               obtain⟨_,rfl⟩:=h10.2 hc;simp at hl;omega
              obtain⟨us2,T2,ff,cc,_,_,h11,h12,h12',h13,h14,h15,h16⟩:=h10.1 hRn;obtain⟨f,rfl,q11⟩:=q9 hRn;have hf:f=0:=by
               rcases q11 with q11|q11
               . omega
               . simpa using q11
              subst hf;refine triv rfl (a5m (b:=G.β (nest k i j)) (f:=0) (c:=c) (by rw[hlen]) (.inr rfl) fun a d hd=>⟨a3y hz hd,fun t x hx=>?_⟩);have hal:a<l:=(by rw[←hlen];exact(B4.1 hd).1);have hd':=hd;rw[a0O,if_pos hal]at hd';obtain⟨p1,p2⟩:=h16 a d hd';obtain⟨p3,u,p4,p5⟩:=p2 t x hx;refine⟨u,?_,p3,a1y p3 p5⟩;rw[a0U h13,U3,←a3y hz hd,p1];exact p4
          . cases hk
        . cases hk
      . cases hk
    . cases hk
  . cases hk
end
section
variable{news:List PV}{k sz by_:Nat}{V:Nat→Value}{mk:Nat→Nat→Option Nat}{hide:List Nat}{v ps:PV}{ws' ws:List (Nat×Row)}{s x:Value}{t ty:TypeId}
section
variable{P:Program}{B:Nat}{Z0:Nat→Prop}{G G':Gh}{h h':l5}{w w':World}
def Gh.a5c(G:Gh)(k:Nat):Gh:={G with R:=fun key=>key.1≠k∧G.R key,γ:=fun key=>if key=root k then 0 else G.γ key}
theorem b6Z(hr:p7 B Z0 G h w){g:Nat}{old:Ob}(hh:h[k]?=some (g,old))(h0:0<sz):p7 B Z0 (G.a5c k) (h.set k (g+1,.arr sz 0 false [])) w∧Ext G h w (G.a5c k) (h.set k (g+1,.arr sz 0 false [])) w:=by
 have hk:k<h.length:=(B4.1 hh).1;have hsame:∀k' y,k'≠k→B8 G (G.a5c k) (k',y):=fun k' y hkk=>⟨rfl,⟨fun x=>x.2,fun x=>⟨hkk,x⟩⟩,by simp[Gh.a5c,hkk],rfl⟩
 have x:Ext G h w (G.a5c k) (h.set k (g+1,.arr sz 0 false [])) w:=by
  refine⟨fun _ y=>y,fun _ _=>rfl,fun k' gn o e=>?_⟩;by_cases hkk:k'=k
  . grind
  . exact⟨gn,o,by rw[D9 (Ne.symm hkk)];exact e,m0 _,fun _=>K5.refl k' o (hsame _ _ hkk) fun i j=>hsame _ _ hkk⟩
 refine⟨hr.update k (g+1) _ hk x (fun k' y hkk=>.inl (hsame k' y hkk)) (fun _ _ _ _=>rfl) (m0 _) hr.zb (fun b hb=>.inl hb) (fun _ _ _ _ hn=>hn) (fun y hR=>absurd rfl hR.1) (fun e=>by cases e) ?_,x⟩;unfold E5;exact⟨h0,C9 _,by simp[Gh.a5c],fun hR=>absurd rfl hR.1,fun _=>rfl⟩
def a6M(G:Gh)(h:l5)(w:World)(sz:Nat)(news:List PV)(V:Nat→Value)(mk:Nat→Nat→Option Nat):Prop:=
 ∀(i:Nat) d,news[i]?=some d→(l6 d).length=sz∧∀(t:Nat) c,(l6 d)[t]?=some c→a2R G h w (mk i t) (V (i*sz+t)) c
theorem a7t(hr:p7 B Z0 G h w){g ver ver' γ0 b l:Nat}{es:List PV}{us us':Array Value}{T T0:TypeId}(hh:h[k]?=some (g,.arr sz ver false es))(hs:a6M G h w sz news V mk)
 (hmk:∀i t k2,mk i t=some k2→i<news.length∧k2≠k∧(∃g2,h[k2]?=some (g2,.dead))∧(G.R (root k2)→¬G.Z (G.β (root k2)))) (hinj:∀i t i' t' k2,mk i t=some k2→mk i' t'=some k2→i=i'∧t=t')
 (hl:l≤es.length) (hv:(l=es.length∧ver'=ver)∨ver'=ver+1)
 (hwhere:(G.R (root k)∧b=G.β (root k)∧γ0=G.γ (root k))∨(b=w.heap.size∧es.length<l+news.length))
 (hnew:w'.heap[b]?=some (.cells us' T (0,0))) (hold:∀x,x<w.heap.size→x≠b→w'.heap[x]?=w.heap[x]?) (hsz:w.heap.size≤w'.heap.size)
 (c1:us'.size=γ0*sz) (c2:(es.take l++news++es.drop (l+news.length)).length≤γ0) (c3:γ0≤maxLen)
 (hb:es≠ []→w.heap[G.β (root k)]?=some (.cells us T0 (0,0)))
 (hu1:∀q,q<news.length*sz→us'[l*sz+q]?=some (V q)) (hu2:∀i j,j<sz→i<es.length→¬(l≤i∧i<l+news.length)→us'[i*sz+j]?=us[i*sz+j]?):
 ∃G',p7 B Z0 G' (h.set k (g,.arr sz ver' false (es.take l++news++es.drop (l+news.length)))) w'∧Ext G h w G' (h.set k (g,.arr sz ver' false (es.take l++news++es.drop (l+news.length)))) w'∧G'.R (root k)∧G'.β (root k)=b∧G'.γ (root k)=γ0:=by
 have hget:∀(i:Nat) e,(es.take l++news++es.drop (l+news.length))[i]?=some e→(l≤i∧i<l+news.length∧news[i-l]?=some e)∨(¬(l≤i∧i<l+news.length)∧es[i]?=some e):=by
  intro i e he;have h1:(es.take l).length=l:=I3;by_cases c1:i<l
  . grind
  . rw[a3u,a3X i9,h1]at he;by_cases c2:i<l+news.length
    . grind
    . grind
 have hget':∀(i:Nat) e,es[i]?=some e→¬(l≤i∧i<l+news.length)→(es.take l++news++es.drop (l+news.length))[i]?=some e:=by grind
 have hlen:(es.take l++news++es.drop (l+news.length)).length=max es.length (l+news.length):=I3;obtain⟨x1,x2⟩:=b4m (ver':=ver') (es':=es.take l++news++es.drop (l+news.length)) (mk:=fun i j=>if l≤i∧i<l+news.length then mk (i-l) j else none) hr hh
  (hwhere.imp id fun⟨p1,p2⟩=>⟨p1,by rw[hlen];omega⟩) hnew hold hsz
  (fun i j k2 hm=>by
   try dsimp only at hm
   split at hm
   . exact(hmk _ _ _ hm).2
   . cases hm)
  (fun i j i' j' k2 hm hm'=>by
   try dsimp only at hm hm'
   split at hm
   . grind
   . cases hm)
  c1 c2 c3 (by rw[hlen];omega) i9 (fun hver i j ns hc=>by
   have hle:l=es.length:=i9;have hi:i<es.length:=by
    cases he:es[i]? with
    |none=>simp[cellAt,he]at hc
    |some e=>exact(B4.1 he).1
   obtain⟨e,he⟩:∃e,es[i]?=some e:=⟨es[i],l9 hi⟩
   have hn:¬(l≤i∧i<l+news.length):=i9;refine⟨ns,?_,rfl,by rw[if_neg hn]⟩;simp only[cellAt,hget' i e he hn,a5e];simpa[cellAt,he]using hc)
  (fun i e he=>by
   rcases hget i e he with⟨p1,p2,p3⟩|⟨p1,p2⟩
   . obtain⟨q1,q2⟩:=hs _ e p3;refine⟨q1,fun j c hc=>?_⟩;have hjs:j<sz:=(by rw[←q1];exact(B4.1 hc).1);have hmm:(if l≤i∧i<l+news.length then mk (i-l) j else none)=mk (i-l) j:=if_pos ⟨p1,p2⟩;refine⟨V ((i-l)*sz+j),?_,?_⟩
     . have h9:(i-l+1)*sz≤news.length*sz:=Z4 _ i9;rw[Q9]at h9;have:=hu1 ((i-l)*sz+j) i9;rw[←this];congr 1;have:i*sz=l*sz+(i-l)*sz:=(by rw[←Q9];congr 1;omega);omega
     . try dsimp only
       rw[hmm];exact b9z (q2 j c hc)
   . have hi:=(B4.1 p2).1;obtain⟨_,us2,T2,q1,q2,q3,q4⟩:=a3n hr hh p2;rw[hb fun e=>by rw[e]at hi;simp at hi]at q1;cases q1;refine⟨q3,fun j c hc=>?_⟩;have hjs:j<sz:=(by rw[←q3];exact(B4.1 hc).1);obtain⟨u,q5,q6⟩:=q4 j c hc;have hmm:(if l≤i∧i<l+news.length then mk (i-l) j else none)=none:=if_neg p1;refine⟨u,by rw[hu2 i j hjs hi p1];exact q5,?_⟩
     try dsimp only
     rw[hmm];exact q6)
 exact⟨_,x1,x2,by simp[Gh.mv],by simp[Gh.mv],by simp[Gh.mv]⟩
theorem b8s(h0:0<sz)(hs:a6M G h w sz news V mk){q:Nat}(hq:q<news.length*sz):(V q).oneCell'=true:=by
 have hn:=div_lt hq;obtain⟨d,hd⟩:∃d,news[q/sz]?=some d:=⟨news[q/sz],l9 hn⟩
 obtain⟨h1,h2⟩:=hs _ d hd;have hm:q%sz<(l6 d).length:=by rw[h1];exact Nat.mod_lt _ h0
 have h3:=h2 (q%sz) _ (l9 hm);rw[show q/sz*sz+q%sz=q by rw[Nat.mul_comm];exact Nat.div_add_mod q sz]at h3;cases hmk:mk (q/sz) (q%sz)with
 |none=>rw[hmk]at h3;exact a6L h3.1 h3.2
 |some k=>
  rw[hmk]at h3;obtain⟨ns,_,h4⟩:=h3;unfold N7 at h4;by_cases hR:G.R (root k)
  . obtain⟨_,_,_,_,h5,_⟩:=h4.1 hR;rw[h5];rfl
  . rw[(h4.2 hR).1];rfl
theorem a6M.ext{sz:Nat}{news:List PV}{V:Nat→Value}{mk:Nat→Nat→Option Nat}(x:Ext G h w G' h' w)(hk:∀i t k,mk i t=some k→B8 G G' (root k))(hs:a6M G h w sz news V mk):a6M G' h' w sz news V mk:=
 fun i d hd=>⟨(hs i d hd).1,fun t c hc=>((hs i d hd).2 t c hc).ext x (fun k hm=>hk i t k hm) fun _ _ _=>rfl⟩
def T8(V:Nat→Value)(n:Nat):List Value:=(List.range n).map V
theorem a5Y(V:Nat→Value)(n:Nat):(T8 V n).length=n:=by simp[T8]
theorem a3c{n q:Nat}(hq:q<n):(T8 V n)[q]?=some (V q):=by simp[T8,hq]
theorem c4o(t ty e:TypeId)(i:TypeInfo)(ht:P.underlying t=some (.slice e))(hi:P.info? e=some i)(a:Option Addr)(l c:Nat)(hlc:l≤c)(ax:Option Addr)(cx:Nat):
 (Builtin.append_ #[t,t] ty #[.slice a l c,.slice ax 0 cx]).run P w=.ok (.slice a l c) w:=by
 cases a<;>cases ax<;>simp[Builtin.append_,run_underlying ht,sizeOf,typeInfo,hi,Builtin.lenOf,hlc,Builtin.firstCells,loadCells,loadCellsFrom,storeCells]
theorem c6D(t ty e:TypeId)(i:TypeInfo)(ht:P.underlying t=some (.slice e))(hi:P.info? e=some i)(T:TypeId)
 (g sLen sCap:Nat) (cur:Array Value) (hg:w.heap[g]?=some (.cells cur T (0,0)))
 (a:Addr) (m c:Nat) (news:List Value) (hl:news.length=m*i.size) (hnews:∀j u,news[j]?=some u→w.cell? (a.add j)=some u) (h1:∀u∈news,u.oneCell'=true)
 (hroom:sLen+m≤sCap) (hfit:sLen*i.size+news.length≤cur.size):
 (Builtin.append_ #[t,t] ty #[.slice (some ⟨g,0,none⟩) sLen sCap,.slice (some a) m c]).run P w=
  .ok (.slice (some ⟨g,0,none⟩) (sLen+m) sCap) (w.setRow g (Y8 cur (sLen*i.size) news)):=by
 have hf:=run_firstCells_some (P:=P) w i.size m a m c news hl hnews;have hst:=run_storeCells_at P g (sLen*i.size) T news 0 cur w hg (by simpa using hfit) h1;simp only[a3t]at hst;simp[Builtin.append_,run_underlying ht,sizeOf,typeInfo,hi,Builtin.lenOf,hroom,hf,Addr.add_lit,hst,Y8]
structure a4f(P:Program)(w:World)(e:TypeId)(i:TypeInfo)(zv:Value)(A:Value→Sem Value)(n:Nat)(N:List Value):Prop where
 none0:n=0→∀(a:Option Addr) (l c:Nat),l≤c→(A (.slice a l c)).run P w=.ok (.slice a l c) w
 room:n≠0→∀(T:TypeId) (g l c:Nat) (cur:Array Value),w.heap[g]?=some (.cells cur T (0,0))→l+n≤c→n*i.bytes≤140737488355328→l*i.size+N.length≤cur.size→(∀u∈N,u.oneCell'=true)→(A (.slice (some ⟨g,0,none⟩) l c)).run P w=.ok (.slice (some ⟨g,0,none⟩) (l+n) c) (w.setRow g (Y8 cur (l*i.size) N))
 nil:n≠0→n*i.bytes≤140737488355328→n≤140737488355328→(A (.slice none 0 0)).run P w=.ok (.slice (some ⟨w.heap.size,0,none⟩) n (grownCap w n 0 e)) (w.drew.alloc (.cells (N.toArray++Builtin.zeroCells zv.cells (grownCap w n 0 e-n)) e))
 grow:n≠0→∀(b:Addr) (l c:Nat) (olds:List Value),olds.length=l*i.size→(∀(j:Nat) v,olds[j]?=some v→w.cell? (b.add j)=some v)→c<l+n→l+n≤140737488355328→(l+n)*i.bytes≤140737488355328→(A (.slice (some b) l c)).run P w=.ok (.slice (some ⟨w.heap.size,0,none⟩) (l+n) (grownCap w (l+n) c e)) (w.drew.alloc (.cells (olds.toArray++N.toArray++Builtin.zeroCells zv.cells (grownCap w (l+n) c e-(l+n))) e))
theorem b4l{e:TypeId}{i:TypeInfo}{zv:Value}{A:Value→Sem Value}{G1:Gh}(hr:p7 B Z0 G h w)(hk:k<h.length∧hide.contains k=false)
 (hzc:zv.cells.size=i.size) (hpos:0<i.size) (hby:i.bytes=by_) (hb0:by_≠0) (hvs:j8 G h w D s ps)
 (hdis:a4T k ps∉ws.map (·.1)) (happ:a1r (l8 h hide) k i.size by_ ps news=some (v,ws'))
 (e1:p7 B Z0 G1 (m6 h ws) w) (e2:Ext G h w G1 (m6 h ws) w) (e3:a6M G1 (m6 h ws) w i.size news V mk) (e4:∀k,k∉ws.map (·.1)→(m6 h ws)[k]?=h[k]?)
 (e5:∀i t k2,mk i t=some k2→i<news.length∧k2∈ws.map (·.1)∧(∃g2,(m6 h ws)[k2]?=some (g2,.dead))∧(G1.R (root k2)→¬G1.Z (G1.β (root k2)))) (e6:∀i t i' t' k2,mk i t=some k2→mk i' t'=some k2→i=i'∧t=t')
 (hA:a4f P w e i zv A news.length (T8 V (news.length*i.size))):
 Good P B Z0 G h w (do pure (.value (←A s))) v (ws++ws'):=by
 cases ps<;>(try (simp[a1r]at happ;done))
 case nils=>
  simp only[a1r]at happ;split at happ
  . rename_i hbytes;simp only[p9,s6]at happ;obtain⟨rfl,rfl⟩:=happ;obtain rfl:=Z7 hvs;obtain⟨⟨g,old⟩,hh⟩:∃r,h[k]?=some r:=⟨_,l9 hk.1⟩
    rw[a6p hk.2 hh];have hh1:=(e4 k hdis).trans hh;obtain⟨v1,v2⟩:=b6Z (sz:=i.size) e1 hh1 hpos;have hlen1:k<(m6 h ws).length:=(by grind);have hupd:∀r,m6 h (ws++[(k,r)])=(m6 h ws).set k r:=fun r=>(by rw[a3x];rfl);by_cases hn:news.length=0
    . have:news=[]:=a0Q.1 hn;subst this;refine⟨_,.slice none 0 0,w,G1.a5c k,by simp[hA.none0 rfl .none 0 0 (m0 _)],.inl rfl,by rw[hupd];exact v1,by rw[hupd];exact e2.trans v2,?_,Bl.refl _ _⟩;rw[hupd];unfold D;unfold j8;refine⟨none,0,rfl,m0 _,C9 _,.inl ⟨rfl,rfl⟩,g+1,_,D7 hlen1,m0 _,fun _ sz' vr fr es e=>?_⟩;cases e;exact⟨m0 _,fun _=>⟨C9 _,fun hR=>absurd rfl hR.1,fun _=>⟨rfl,rfl⟩⟩⟩
    . have hVl:=a5Y V (news.length*i.size);have hnl:news.length≤140737488355328:=(by have:=Nat.le_mul_of_pos_right news.length (Nat.pos_of_ne_zero hb0);omega);have hrun:=hA.nil hn (by rw[hby];omega) i9;have hcap:=grownCap_ge w news.length 0 e;have hcm:=grownCap_le_maxLen w news.length 0 e (by unfold maxLen;omega);have hc0:(m6 h ws).set k (g+1,Ob.arr i.size 0 false [])=(m6 h ws).set k (g+1,Ob.arr i.size 0 false []):=rfl;obtain⟨G2,d1,d2,d3,d4,d5⟩:=a7t (ver':=0) (γ0:=grownCap w news.length 0 e) (l:=0) (us:= #[]) (T0:=0) (w':=w.drew.alloc (.cells ((T8 V (news.length*i.size)).toArray++Builtin.zeroCells zv.cells (grownCap w news.length 0 e-news.length)) e)) v1 (D7 hlen1)
       (e3.ext v2 fun a t k2 hm=>by have hne:k2≠k:=fun e=>hdis (e▸(e5 a t k2 hm).2.1);exact⟨rfl,⟨fun y=>y.2,fun y=>⟨hne,y⟩⟩,by simp[Gh.a5c,hne],rfl⟩)
       (fun a t k2 hm=>by obtain⟨p1,p2,⟨g2,p3⟩,p4⟩:=e5 a t k2 hm;have hne:k2≠k:=fun e=>hdis (e▸p2);exact⟨p1,hne,⟨g2,by rw[D9 (Ne.symm hne)];exact p3⟩,fun hR=>p4 hR.2⟩)
       e6 (m0 0) (.inl ⟨rfl,rfl⟩) (.inr ⟨rfl,I3⟩) (heap_alloc_new w.drew _) (fun y hy _=>Below.heap_alloc w.drew _ y hy) k7
       (by rw[a6z,size_zeroCells,hzc,a9y,hVl,←Q9];congr 1;omega)
       (by simpa using hcap) hcm (fun e=>absurd rfl e)
       (fun q hq=>by rw[Nat.zero_mul,U3,a2S (by simpa[hVl]using hq)];rw[a7G];exact a3c hq)
       (fun a j _ ha=>by simp at ha)
      have hE:([]:List PV).take 0++news++([]:List PV).drop (0+news.length)=news:=k7;rw[hE,a7H]at d1 d2;refine⟨_,_,_,G2,by simp only[N8,hrun,Q8,a1E];rfl,.inl rfl,by rw[hupd];exact d1,by rw[hupd];exact e2.trans (v2.trans d2),?_,(Bl.drew (Bl.refl _ _)).alloc (by simpa using hr.base) _⟩;rw[hupd];unfold D;unfold j8;refine⟨_,_,rfl,hcap,hcm,.inr ⟨_,_,rfl⟩,g+1,_,D7 hlen1,m0 _,fun _ sz' vr fr es e9=>?_⟩;cases e9;exact⟨m0 _,fun _=>⟨i9,fun _=>⟨0,by rw[d4],.inr k7,i9,by rw[d5];omega⟩,fun hn'=>absurd d3 hn'⟩⟩
  . cases happ
 case ne=>
  simp only[a1r]at happ;split at happ
  . rename_i hbytes;simp only[p9,s6]at happ;obtain⟨rfl,rfl⟩:=happ;obtain⟨hn,hbytes⟩:=hbytes;obtain⟨b0,o0,rfl⟩:∃b o,s=.slice (some ⟨b,o,none⟩) 0 0:=(by unfold D at hvs;unfold j8 at hvs;exact hvs);obtain⟨⟨g,old⟩,hh⟩:∃r,h[k]?=some r:=⟨_,l9 hk.1⟩
    rw[a6p hk.2 hh];have hh1:=(e4 k hdis).trans hh;obtain⟨v1,v2⟩:=b6Z (sz:=i.size) e1 hh1 hpos;have hlen1:k<(m6 h ws).length:=(by grind);have hupd:∀r,m6 h (ws++[(k,r)])=(m6 h ws).set k r:=fun r=>(by rw[a3x];rfl);have hVl:=a5Y V (news.length*i.size);have hnl:news.length≤140737488355328:=(by have:=Nat.le_mul_of_pos_right news.length (Nat.pos_of_ne_zero hb0);omega);have hrun:=hA.grow hn ⟨b0,o0,none⟩ 0 0 [] k7 k7 i9 i9 (by grind);simp only[U3,List.append_toArray,a4E,Array.empty_append]at hrun;have hcap:=grownCap_ge w news.length 0 e;have hcm:=grownCap_le_maxLen w news.length 0 e (by unfold maxLen;omega);have hc0:(m6 h ws).set k (g+1,Ob.arr i.size 0 false [])=(m6 h ws).set k (g+1,Ob.arr i.size 0 false []):=rfl;obtain⟨G2,d1,d2,d3,d4,d5⟩:=a7t (ver':=0) (γ0:=grownCap w news.length 0 e) (l:=0) (us:= #[]) (T0:=0) (w':=w.drew.alloc (.cells ((T8 V (news.length*i.size)).toArray++Builtin.zeroCells zv.cells (grownCap w news.length 0 e-news.length)) e)) v1 (D7 hlen1)
     (e3.ext v2 fun a t k2 hm=>by have hne:k2≠k:=fun e=>hdis (e▸(e5 a t k2 hm).2.1);exact⟨rfl,⟨fun y=>y.2,fun y=>⟨hne,y⟩⟩,by simp[Gh.a5c,hne],rfl⟩)
     (fun a t k2 hm=>by obtain⟨p1,p2,⟨g2,p3⟩,p4⟩:=e5 a t k2 hm;have hne:k2≠k:=fun e=>hdis (e▸p2);exact⟨p1,hne,⟨g2,by rw[D9 (Ne.symm hne)];exact p3⟩,fun hR=>p4 hR.2⟩)
     e6 (m0 0) (.inl ⟨rfl,rfl⟩) (.inr ⟨rfl,I3⟩) (heap_alloc_new w.drew _) (fun y hy _=>Below.heap_alloc w.drew _ y hy) k7
     (by rw[a6z,size_zeroCells,hzc,a9y,hVl,←Q9];congr 1;omega)
     (by simpa using hcap) hcm (fun e=>absurd rfl e)
     (fun q hq=>by rw[Nat.zero_mul,U3,a2S (by simpa[hVl]using hq)];rw[a7G];exact a3c hq)
     (fun a j _ ha=>by simp at ha)
    have hE:([]:List PV).take 0++news++([]:List PV).drop (0+news.length)=news:=k7;rw[hE,a7H]at d1 d2;refine⟨_,_,_,G2,by simp only[N8,hrun,Q8,a1E];rfl,.inl rfl,by rw[hupd];exact d1,by rw[hupd];exact e2.trans (v2.trans d2),?_,(Bl.drew (Bl.refl _ _)).alloc (by simpa using hr.base) _⟩;rw[hupd];unfold D;unfold j8;refine⟨_,_,rfl,hcap,hcm,.inr ⟨_,_,rfl⟩,g+1,_,D7 hlen1,m0 _,fun _ sz' vr fr es e9=>?_⟩;cases e9;exact⟨m0 _,fun _=>⟨i9,fun _=>⟨0,by rw[d4],.inr k7,i9,by rw[d5];omega⟩,fun hn'=>absurd d3 hn'⟩⟩
  . cases happ
 case own k1 g gl s0 o l=>
  simp only[a1r]at happ;split at happ
  . rename_i g' sz1 ver fr es hlk;split at happ
    . rename_i hc;obtain⟨rfl,hgl,rfl,rfl,rfl,rfl,hlg,hbytes⟩:=hc;have hh:=T9 hlk k7;have hh1:=(e4 k1 hdis).trans hh;have hk1:k1<(m6 h ws).length:=(B4.1 hh1).1;have hupd:∀r,m6 h (ws++[(k1,r)])=(m6 h ws).set k1 r:=fun r=>(by rw[a3x];rfl);have hall:∃ver',((l=es.length∧ver'=ver)∨(l≠es.length∧ver'=ver+1))∧v=.own k1 g' (es.take l++news++es.drop (l+news.length)).length i.size 0 (l+news.length)∧ws'=[(k1,(g',.arr i.size ver' false (es.take l++news++es.drop (l+news.length))))]:=by
       split at happ
       . rename_i hlgl;simp only[p9,s6]at happ;obtain⟨rfl,rfl⟩:=happ;have h1:es.take l=es:=U4 i9;have h2:es.drop (l+news.length)=[]:=b4H i9;refine⟨ver,.inl ⟨i9,rfl⟩,?_,?_⟩
         . grind
         . rw[h1,h2,a0E]
       . grind
      obtain⟨ver',hv0,rfl,rfl⟩:=hall;have hv':(l=es.length∧ver'=ver)∨ver'=ver+1:=hv0.imp id fun y=>y.2;have hlenE:(es.take l++news++es.drop (l+news.length)).length=max es.length (l+news.length):=I3;have hvs1:=hvs.ext e2;unfold D at hvs1;unfold j8 at hvs1;obtain⟨a,c,rfl,q1,q2,q3,gn,ob,q4,q5,q6⟩:=hvs1;rw[hh1]at q4;cases q4;obtain⟨_,q7⟩:=q6 rfl _ _ _ _ rfl;obtain⟨_,q8,q9⟩:=q7 hgl;have hob:=e1.ob k1 _ _ hh1;unfold E5 at hob;obtain⟨o1,o2,o3,o4,o5⟩:=hob;have hnl:l+news.length≤140737488355328:=(by have:=Nat.le_mul_of_pos_right (l+news.length) (Nat.pos_of_ne_zero hb0);omega);have hVl:=a5Y V (news.length*i.size);have hmk':∀a t k2,mk a t=some k2→a<news.length∧k2≠k1∧(∃g2,(m6 h ws)[k2]?=some (g2,.dead))∧(G1.R (root k2)→¬G1.Z (G1.β (root k2))):=fun a t k2 hm=>by obtain⟨p1,p2,p3,p4⟩:=e5 a t k2 hm;exact⟨p1,fun e=>hdis (e▸p2),p3,p4⟩
      by_cases hR:G1.R (root k1)
      . obtain⟨us,T,o6,o7,o8⟩:=o4 hR;obtain⟨f,rfl,q10,q11,q12⟩:=q8 hR;have hfc:f=0∨c=0:=i9;by_cases hroom:l+news.length≤c
        ·
         have hfit:l*i.size+(T8 V (news.length*i.size)).length≤us.size:=by rw[hVl,o7,←Q9];exact Z4 _ i9
         have hD:=fun(us':Array Value) (w':World)=>a7t (ver':=ver') (γ0:=G1.γ (root k1)) (b:=G1.β (root k1)) (l:=l) (us:=us) (T0:=T) (T:=T) (us':=us') (w':=w') e1 hh1 e3 hmk' e6 i9 hv' (.inl ⟨hR,rfl,rfl⟩);by_cases hn:news.length=0
         . obtain⟨G2,d1,d2,d3,d4,d5⟩:=hD us w o6 (fun _ _ _=>rfl) (m0 _) o7 (by rw[hlenE];omega) o3 (fun _=>o6) (fun q hq=>by rw[hn]at hq;omega) (fun _ _ _ _ _=>rfl);refine⟨_,.slice (some ⟨G1.β (root k1),f,none⟩) l c,w,G2,?_,.inl rfl,by rw[hupd];exact d1,by rw[hupd];exact e2.trans d2,?_,Bl.refl _ _⟩
           . simp[hA.none0 hn (some ⟨G1.β (root k1),f,none⟩) l c i9]
           . rw[hupd];unfold D;unfold j8;refine⟨_,_,by rw[hn];rfl,i9,q2,.inr ⟨_,_,rfl⟩,g',_,D7 hk1,m0 _,fun _ sz' vr fr es' e9=>?_⟩;cases e9;refine⟨m0 _,fun _=>⟨by rw[hlenE];omega,fun _=>⟨f,by rw[d4],?_,by rw[hlenE];omega,by rw[d5];omega⟩,fun hn'=>absurd d3 hn'⟩⟩;rcases hfc with hf|hf
             . exact .inr fun _=>by omega
             . exact .inl hf
         . have hf:f=0:=i9;subst hf;have hrun:=hA.room hn T (G1.β (root k1)) l c us o6 hroom (by rw[hby];have:=Z4 by_ (Nat.le_add_left news.length l);omega) hfit (fun u hu=>by
            obtain⟨q,hq,rfl⟩:=E9.1 hu;exact b8s hpos e3 (by simpa using hq))
           obtain⟨G2,d1,d2,d3,d4,d5⟩:=hD (Y8 us (l*i.size) (T8 V (news.length*i.size))) (w.setRow (G1.β (root k1)) (Y8 us (l*i.size) (T8 V (news.length*i.size)))) (setRow_heap w _ us _ T (0,0) o6) (fun x _ hx=>setRow_other w _ _ _ hx) k7 (by rw[a6v hfit];exact o7) (by rw[hlenE];omega) o3 (fun _=>o6)
            (fun q hq=>by rw[a3K hfit,if_pos (by rw[hVl];omega),show l*i.size+q-l*i.size=q by omega];exact a3c hq)
            (fun a j hj ha hna=>by
             rw[a3K hfit,if_neg ?_];rw[hVl];rintro⟨z1,z2⟩;by_cases hal:a<l
             . have:(a+1)*i.size≤l*i.size:=Z4 _ i9;rw[Q9]at this;omega
             . have:(l+news.length)*i.size≤a*i.size:=Z4 _ i9;rw[Q9]at this;omega)
           refine⟨_,_,_,G2,by simp only[N8,hrun,Q8,a1E];rfl,.inl rfl,by rw[hupd];exact d1,by rw[hupd];exact e2.trans d2,?_,a6a (Bl.refl _ _) (e1.lv _ hR).1 _ (by assumption)⟩;rw[hupd];unfold D;unfold j8;refine⟨_,_,rfl,i9,q2,.inr ⟨_,_,rfl⟩,g',_,D7 hk1,m0 _,fun _ sz' vr fr es' e9=>?_⟩;cases e9;exact⟨m0 _,fun _=>⟨by rw[hlenE];omega,fun _=>⟨0,by rw[d4],.inr k7,by rw[hlenE];omega,by rw[d5];omega⟩,fun hn'=>absurd d3 hn'⟩⟩
        ·
         have hn:news.length≠0:=i9;have hOl:l*i.size≤us.size:=(by rw[o7];exact Z4 _ i9);have hf0:l*i.size=0∨f=0:=by
          rcases hfc with hf|hf
          . exact .inr hf
          . left;have:l=0:=i9
            rw[this,Nat.zero_mul]
         have hrun:=hA.grow hn ⟨G1.β (root k1),f,none⟩ l c (us.toList.take (l*i.size)) I3 (fun j u hj=>by have hjl:j<l*i.size:=(by have:=(B4.1 hj).1;simp at this;omega);rw[a0O,if_pos hjl]at hj;rw[Addr.add_lit,show f+j=j by omega,a0U o6];simpa using hj) i9 hnl (by rw[hby];exact hbytes)
         have hcap:=grownCap_ge w (l+news.length) c e;have hcm:=grownCap_le_maxLen w (l+news.length) c e (by unfold maxLen;omega);have hOlen:(us.toList.take (l*i.size)).toArray.size=l*i.size:=I3;obtain⟨G2,d1,d2,d3,d4,d5⟩:=a7t (ver':=ver') (γ0:=grownCap w (l+news.length) c e) (l:=l) (us:=us) (T0:=T)
          (w':=w.drew.alloc (.cells ((us.toList.take (l*i.size)).toArray++(T8 V (news.length*i.size)).toArray++Builtin.zeroCells zv.cells (grownCap w (l+news.length) c e-(l+news.length))) e)) e1 hh1 e3 hmk' e6 i9 hv' (.inr ⟨rfl,i9⟩)
          (heap_alloc_new w.drew _) (fun y hy _=>Below.heap_alloc w.drew _ y hy) k7
          (by rw[a6z,a6z,size_zeroCells,hzc,hOlen,a9y,hVl,←Q9,←Q9];congr 1;omega)
          (by rw[hlenE];omega) hcm (fun _=>o6)
          (fun q hq=>by rw[a6A,a5f (by rw[hOlen];omega),hOlen,a2S (by simp[hVl];omega),show l*i.size+q-l*i.size=q by omega];rw[a7G];exact a3c hq)
          (fun a j hj ha hna=>by have hal:a<l:=i9;have h9:(a+1)*i.size≤l*i.size:=Z4 _ i9;rw[Q9]at h9;rw[a6A,a2S (by rw[hOlen];omega),a7G,a0O,if_pos i9];simp)
         refine⟨_,_,_,G2,by simp only[N8,hrun,Q8,a1E];rfl,.inl rfl,by rw[hupd];exact d1,by rw[hupd];exact e2.trans d2,?_,(Bl.drew (Bl.refl _ _)).alloc (by simpa using hr.base) _⟩;rw[hupd];unfold D;unfold j8;refine⟨_,_,rfl,hcap,hcm,.inr ⟨_,_,rfl⟩,g',_,D7 hk1,m0 _,fun _ sz' vr fr es' e9=>?_⟩;cases e9;exact⟨m0 _,fun _=>⟨by rw[hlenE];omega,fun _=>⟨0,by rw[d4],.inr k7,by rw[hlenE];omega,by rw[d5];omega⟩,fun hn'=>absurd d3 hn'⟩⟩
      . have hes:=o5 hR;subst hes;obtain⟨rfl,_⟩:=q9 hR;have hc0:c=0:=by
         rcases q3 with⟨_,q⟩|⟨_,_,q⟩
         . exact q
         . cases q
        subst hc0;have hl0:l=0:=i9;subst hl0;obtain rfl:ver'=ver:=by
         rcases hv0 with h9|h9
         . exact h9.2
         . exact absurd rfl h9.1
        by_cases hn:news.length=0
        . have:news=[]:=a0Q.1 hn;subst this;have hsame:(m6 h ws).set k1 (g',Ob.arr i.size ver' false [])=m6 h ws:=by
           apply a4F;intro j;by_cases hj:j=k1
           . subst hj;rw[D7 hk1,hh1]
           . rw[D9 (Ne.symm hj)]
          refine⟨_,.slice none 0 0,w,G1,by simp[hA.none0 rfl .none 0 0 (m0 _)],.inl rfl,?_,?_,?_,Bl.refl _ _⟩
          . rw[hupd];simp only[List.take_nil,a0E,List.drop_nil];rw[hsame];exact e1
          . rw[hupd];simp only[List.take_nil,a0E,List.drop_nil];rw[hsame];exact e2
          . rw[hupd];simp only[List.take_nil,a0E,List.drop_nil];rw[hsame];unfold D;unfold j8;refine⟨none,0,rfl,m0 _,C9 _,.inl ⟨rfl,rfl⟩,g',_,hh1,m0 _,fun _ sz' vr fr es e9=>?_⟩;cases e9;exact⟨m0 _,fun _=>⟨C9 _,fun hR'=>absurd hR' hR,fun _=>⟨rfl,rfl⟩⟩⟩
        . have hrun:=hA.nil hn (by rw[hby];rw[U3]at hbytes;omega) i9;have hcap:=grownCap_ge w news.length 0 e;have hcm:=grownCap_le_maxLen w news.length 0 e (by unfold maxLen;omega);obtain⟨G2,d1,d2,d3,d4,d5⟩:=a7t (ver':=ver') (γ0:=grownCap w news.length 0 e) (l:=0) (us:= #[]) (T0:=0) (w':=w.drew.alloc (.cells ((T8 V (news.length*i.size)).toArray++Builtin.zeroCells zv.cells (grownCap w news.length 0 e-news.length)) e)) e1 hh1 e3 hmk' e6 (m0 0) (.inl ⟨rfl,rfl⟩) (.inr ⟨rfl,I3⟩)
           (heap_alloc_new w.drew _) (fun y hy _=>Below.heap_alloc w.drew _ y hy) k7
           (by rw[a6z,size_zeroCells,hzc,a9y,hVl,←Q9];congr 1;omega)
           (by simpa using hcap) hcm (fun e=>absurd rfl e)
           (fun q hq=>by rw[Nat.zero_mul,U3,a2S (by simpa[hVl]using hq)];rw[a7G];exact a3c hq)
           (fun a j _ ha=>by simp at ha)
          refine⟨_,.slice (some ⟨w.heap.size,0,none⟩) (0+news.length) (grownCap w news.length 0 e),_,G2,by simp only[N8,hrun,Q8,a1E,U3];rfl,.inl rfl,by rw[hupd];exact d1,by rw[hupd];exact e2.trans d2,?_,(Bl.drew (Bl.refl _ _)).alloc (by simpa using hr.base) _⟩;rw[hupd];unfold D;unfold j8;refine⟨_,_,rfl,i9,hcm,.inr ⟨_,_,rfl⟩,g',_,D7 hk1,m0 _,fun _ sz' vr fr es' e9=>?_⟩;cases e9;exact⟨m0 _,fun _=>⟨by rw[hlenE];omega,fun _=>⟨0,by rw[d4],.inr k7,by rw[hlenE];simp;omega,by rw[d5];omega⟩,fun hn'=>absurd d3 hn'⟩⟩
    . cases happ
  . cases happ
theorem a4f.ofSlice(t ty e:TypeId)(i:TypeInfo)(zv:Value)(ht:P.underlying t=some (.slice e))(hi:P.info? e=some i)(hiz:i.zero=some zv){G:Gh}{h:l5}(hs:Src G h w x i.size news V mk):
 a4f P w e i zv (fun s=>Builtin.append_ #[t,t] ty #[s,x]) news.length (T8 V (news.length*i.size)):=by
 obtain⟨⟨ax,cx,rfl,hax⟩,_⟩:=hs;have hVl:=a5Y V (news.length*i.size);refine⟨fun hn a l c hlc=>?_,fun hn T g l c cur hg hroom _ hfit h1=>?_,fun hn hb hl=>?_,fun hn b l c olds ho hov hg hl hb=>?_⟩
 . rw[hn];exact c4o (P:=P) (w:=w) t ty e i ht hi a l c hlc ax cx
 . obtain⟨b,fx,rfl,hV⟩:=hax.resolve_left hn;exact c6D (P:=P) (w:=w) t ty e i ht hi T g l c cur hg ⟨b,fx,none⟩ news.length cx (T8 V (news.length*i.size)) hVl (fun j u hj=>by
    have hj':j<news.length*i.size:=(by grind);rw[a3c hj']at hj;cases hj;rw[Addr.add_lit];exact hV j hj') h1 hroom hfit
 . obtain⟨b,fx,rfl,hV⟩:=hax.resolve_left hn;exact run_append_nil (P:=P) w t ty e i zv ht hi hiz ⟨b,fx,none⟩ news.length cx (T8 V (news.length*i.size)) hVl (fun j u hj=>by
    have hj':j<news.length*i.size:=(by grind);rw[a3c hj']at hj;cases hj;rw[Addr.add_lit];exact hV j hj') i9 i9 i9
 . obtain⟨a,fx,rfl,hV⟩:=hax.resolve_left hn;exact run_append_grow (P:=P) w t ty e i zv ht hi hiz b l c olds ho hov ⟨a,fx,none⟩ news.length cx (T8 V (news.length*i.size)) hVl (fun j u hj=>by
    have hj':j<news.length*i.size:=(by grind);rw[a3c hj']at hj;cases hj;rw[Addr.add_lit];exact hV j hj') hg i9 (growslice_fits hg hb)
theorem b8E(hr:p7 B Z0 G h w){e:TypeId}{mode:Nat}{px z:PV}(hk:k<h.length∧hide.contains k=false)(ht:P.underlying t=some (.slice e))(hs:H8 P e=some sz)(hb:a4v P e=some by_)(hz:a0c P e=some z)
 (hzl:(l6 z).length=sz) (h0:sz≠0) (hb0:by_≠0) (hvs:j8 G h w D s ps) (hm4:mode≠4∧mode≠5) (hvx:j8 G h w D x px) (hsrc:a1q (l8 h hide) mode px=some (news,ws)) (hszok:a2w sz news=true)
 (hdis:a4T k ps∉ws.map (·.1)) (happ:a1r (l8 h hide) k sz by_ ps news=some (v,ws')):
 Good P B Z0 G h w (do pure (.value (←Builtin.append_ #[t,t] ty #[s,x]))) v (ws++ws'):=by
 obtain⟨i,zv,hi,hiz,hzv⟩:=a4r hz;obtain⟨i',hi',rfl⟩:=a1h hs;rw[hi]at hi';cases hi';have hby:i.bytes=by_:=by unfold a4v at hb;rw[hi]at hb;simpa using hb
 have hzc:zv.cells.size=i.size:=by rw[(a5W (G:=G) (h:=h) (w:=w) hzv).1,hzl]
 have hpos:0<i.size:=i9;obtain⟨G1,V,mk,e1,e2,e3,e4,e5,e6,e7⟩:=b1W hr hm4 hvx hszok hsrc;exact b4l (A:=fun s=>Builtin.append_ #[t,t] ty #[s,x]) hr hk hzc hpos hby hb0 hvs hdis happ e1 e2 e3.cells e4 e5 e6 (a4f.ofSlice t ty e i zv ht hi hiz e3)
theorem b6J{z0 zv:Value}(hz:zv.cells= #[z0])(n:Nat):Builtin.zeroCells zv.cells n=(T8 (fun _=>z0) n).toArray:=by apply Array.ext';rw[hz];simp[Builtin.zeroCells,T8,Nat.mod_one]
theorem a4f.c3v(t u ty e:TypeId)(i:TypeInfo)(zv z0:Value)(ht:P.underlying t=some (.slice e)){ik:IntKind}(hu:P.underlying u=some (.int ik))(hi:P.info? e=some i)(hiz:i.zero=some zv)(hz:zv.cells= #[z0])(h1:i.size=1){n:Nat}(hn:n≤140737488355328){kk:IntKind}:
 a4f P w e i zv (fun s=>Builtin.append_ #[t,u] ty #[s,.int kk n]) n (T8 (fun _=>z0) (n*i.size)):=by
 have hw:IntKind.i64.wrap (n:Int)=(n:Int):=by unfold IntKind.wrap;simp[IntKind.signed,IntKind.bits];omega
 have hs1:n*i.size=n:=by grind
 have hneg:¬((n:Int)<0):=i9;have hzz:=b6J hz n;rw[hs1];refine⟨fun hn0 a l c hlc=>?_,fun hn0 T g l c cur hg hroom hb hfit h1'=>?_,fun hn0 hb hl=>?_,fun hn0 b l c olds ho hov hg hl hb=>?_⟩
 . subst hn0;have w0:IntKind.i64.wrap 0=0:=rfl;cases a<;>simp[Builtin.append_,run_underlying ht,run_underlying hu,sizeOf,typeInfo,hi,w0,hlc,Go.asInt,asIntOf,storeCells]
 . have hb':¬(281474976710656<(n:Int)*(i.bytes:Int)):=by
    have:((n*i.bytes:Nat):Int)≤140737488355328:=i9;rw[Int.natCast_mul]at this;omega
   have hst:=run_storeCells_at P g (l*i.size) T (T8 (fun _=>z0) n) 0 cur w hg (by simpa using hfit) h1';simp only[a3t]at hst;simp[Builtin.append_,run_underlying ht,run_underlying hu,sizeOf,typeInfo,hi,hw,hneg,hb',Go.asInt,asIntOf,hroom,hs1,hn0,zeroValue,hiz,hzz,Addr.add_lit,hst,Y8]
 . have hb':¬(281474976710656<(n:Int)*(i.bytes:Int)):=by
    have:((n*i.bytes:Nat):Int)≤140737488355328:=i9;rw[Int.natCast_mul]at this;omega
   have h63:¬(9223372036854775807<(n:Int)):=i9;have h48:¬(281474976710656<Builtin.nextslicecap n 0*i.bytes):=(by rw[nextslicecap_zero i9];omega);simp[Builtin.append_,run_underlying ht,run_underlying hu,sizeOf,typeInfo,hi,hw,hneg,hb',Go.asInt,asIntOf,hs1,hn0,zeroValue,hiz,hzz,h63,h48,Question.forced,run_firstCells_none,newRow,grownCap]
 . have hb':¬(281474976710656<(n:Int)*(i.bytes:Int)):=by
    have h5:=Z4 i.bytes (Nat.le_add_left n l);have:((n*i.bytes:Nat):Int)≤140737488355328:=i9;rw[Int.natCast_mul]at this;omega
   have h63:¬(9223372036854775807<(l:Int)+(n:Int)):=i9;have hg':¬(l+n≤c):=i9;have h48:¬(281474976710656<Builtin.nextslicecap (l+n) c*i.bytes):=(by have:=growslice_fits hg hb;omega);have hfo:=run_firstCells_some (P:=P) w.drew i.size l b l c olds ho (by simpa using hov);simp[Builtin.append_,run_underlying ht,run_underlying hu,sizeOf,typeInfo,hi,hw,hneg,hb',Go.asInt,asIntOf,hs1,hn0,zeroValue,hiz,hzz,h63,h48,hg',Question.forced,hfo,newRow,grownCap];congr 2;apply Array.ext';simp
theorem c8u(hr:p7 B Z0 G h w){u e:TypeId}{n:Int}{ik kk:IntKind}(hk:k<h.length∧hide.contains k=false)(ht:P.underlying t=some (.slice e))(hu:P.underlying u=some (.int ik))(hs:H8 P e=some 1)(hb:a4v P e=some by_)(hz:a0c P e=some (.int .u8 0))
 (hb0:by_≠0) (hn:0≤n∧n≤140737488355328) (hvs:j8 G h w D s ps) (happ:a1r (l8 h hide) k 1 by_ ps (List.replicate n.toNat (.int .u8 0))=some (v,ws')):
 Good P B Z0 G h w (do pure (.value (←Builtin.append_ #[t,u] ty #[s,.int kk n]))) v ws':=by
 obtain⟨m,rfl⟩:∃m:Nat,n=m:=⟨n.toNat,i9⟩
 rw[Int.toNat_natCast]at happ;obtain⟨i,zv,hi,hiz,hzv⟩:=a4r hz;obtain⟨i',hi',h1⟩:=a1h hs;rw[hi]at hi';cases hi';have hby:i.bytes=by_:=by unfold a4v at hb;rw[hi]at hb;simpa using hb
 have hzv':zv=.int .u8 0:=by exact V0 (a7b (G:=G) (h:=h) (w:=w) hzv).1
 subst hzv';have hA:=a4f.c3v (P:=P) (w:=w) t u ty e i (.int .u8 0) (.int .u8 0) ht hu hi hiz rfl h1 (n:=m) i9 (kk:=kk);rw[←List.length_replicate (n:=m) (a:=PV.int .u8 0)]at hA;have:=b4l (P:=P) (e:=e) (i:=i) (zv:=.int .u8 0) (A:=fun s=>Builtin.append_ #[t,u] ty #[s,.int kk ((List.replicate m (PV.int .u8 0)).length:Nat)]) (ws:=[]) (G1:=G) (V:=fun _=>.int .u8 0) (mk:=fun _ _=>none) hr hk (by rw[h1];rfl) i9 hby hb0 hvs k7 (by rw[h1];exact happ) hr Ext.refl ?_ (fun _ _=>rfl) (fun _ _ _ e=>absurd e k7) (fun _ _ _ _ _ e=>absurd e k7) hA
 . grind
 . intro j d hd;rw[List.getElem?_replicate]at hd;split at hd
   . cases hd;refine⟨by rw[h1];rfl,fun t c hc=>?_⟩;have:t=0∧c=.int .u8 0:=by
      cases t with
      |zero=>simp[l6]at hc;exact⟨rfl,hc.symm⟩
      |succ t=>simp[l6]at hc
     obtain⟨rfl,rfl⟩:=this;refine⟨rfl,?_⟩;unfold D;unfold j8;rfl
   . cases hd
theorem Src.take{vx:Value}{sz l:Nat}{news:List PV}{V:Nat→Value}{mk:Nat→Nat→Option Nat}(hs:Src G h w vx sz news V mk):∃vx',Src G h w vx' sz (news.take l) V (fun i t=>if i<(news.take l).length then mk i t else none):=by
 obtain⟨⟨a,c,rfl,ha⟩,hc⟩:=hs;refine⟨.slice a (news.take l).length c,⟨a,c,rfl,?_⟩,fun i d hd=>?_⟩
 . rcases ha with ha|⟨b,f,rfl,hV⟩
   . left;rw[a1G];omega
   . right;exact⟨b,f,rfl,fun q hq=>hV q (a9z hq (Z4 _ I3))⟩
 . grind
theorem run_copy_none(t u ty e:TypeId)(i:TypeInfo)(ht:P.underlying t=some (.slice e))(hi:P.info? e=some i)(a:Option Addr)(l c:Nat)(ax:Option Addr)(m cx:Nat)(hm:Nat.min m l=0):
 (Builtin.copy_ #[t,u] ty #[.slice a l c,.slice ax m cx]).run P w=.ok (.int .i64 0) w:=by
 cases a<;>cases ax<;>simp[Builtin.copy_,run_underlying ht,sizeOf,typeInfo,hi,Builtin.lenOf,hm,Builtin.firstCells,loadCells,loadCellsFrom,storeCells,goInt]
theorem c2V(t u ty e:TypeId)(i:TypeInfo)(ht:P.underlying t=some (.slice e))(hi:P.info? e=some i)(T:TypeId)
 (g off l c:Nat) (cur:Array Value) (hg:w.heap[g]?=some (.cells cur T (0,0)))
 (a:Addr) (m cx:Nat) (news:List Value) (hl:news.length=Nat.min m l*i.size) (hnews:∀j u,news[j]?=some u→w.cell? (a.add j)=some u) (h1:∀u∈news,u.oneCell'=true)
 (hfit:off+news.length≤cur.size):
 (Builtin.copy_ #[t,u] ty #[.slice (some ⟨g,off,none⟩) l c,.slice (some a) m cx]).run P w=
  .ok (goInt (Nat.min m l)) (w.setRow g (Y8 cur off news)):=by
 have hf:=run_firstCells_some (P:=P) w i.size (Nat.min m l) a m cx news hl hnews;have hst:=run_storeCells_at P g off T news 0 cur w hg (by simpa using hfit) h1;simp only[a3t]at hst;simp[Builtin.copy_,run_underlying ht,sizeOf,typeInfo,hi,Builtin.lenOf,hf,hst,Y8]
theorem c7Y(hr:p7 B Z0 G h w){u e:TypeId}{d:Value}{pd px:PV}(ht:P.underlying t=some (.slice e))(hs:H8 P e=some sz)
 (h0:sz≠0) (hvd:j8 G h w D d pd) (hvx:j8 G h w D x px) (hsrc:a1q (l8 h hide) 0 px=some (news,ws)) (hcp:a6O (l8 h hide) sz pd news ws=some (v,ws')):
 Good P B Z0 G h w (do pure (.value (←Builtin.copy_ #[t,u] ty #[d,x]))) v ws':=by
 obtain⟨i,hi,rfl⟩:=a1h hs;have hpos:0<i.size:=i9;unfold a6O at hcp;split at hcp
 case isFalse=>cases hcp
 rename_i hszok;obtain⟨G1,V,mk,e1,e2,e3,e4,e5,e6,e7⟩:=b1W hr H6 hvx hszok hsrc;obtain⟨⟨ax,cx,rfl,hax⟩,_⟩:=id e3;cases pd<;>(try (simp at hcp;done))
 case nils=>
  simp only[p9,s6]at hcp;obtain⟨rfl,rfl⟩:=hcp;obtain rfl:=Z7 hvd;refine⟨_,.int .i64 0,w,G1,by simp only[N8,run_copy_none t u ty e i ht hi none 0 0 ax news.length cx (by grind),Q8,a1E],.inl rfl,e1,e2,a0z,Bl.refl _ _⟩
 case own k g gl s o l=>
  simp only at hcp;split at hcp
  . rename_i g' sz1 ver fr es hlk;split at hcp
    . rename_i hcond;obtain⟨rfl,hgl,rfl,rfl,rfl,hol,hdis⟩:=hcond;have hdis':k∉ws.map (·.1):=(by simpa using hdis);have hh:=T9 hlk k7;have hh1:=(e4 k hdis').trans hh;have hk:k<(m6 h ws).length:=(B4.1 hh1).1;have hupd:∀r,m6 h (ws++[(k,r)])=(m6 h ws).set k r:=fun r=>(by rw[a3x];rfl);obtain⟨vx',hsrc'⟩:=e3.take (l:=l);have hn:(news.take l).length=Nat.min news.length l:=(by grind);split at hcp
      . rename_i hn0;simp only[p9,s6]at hcp;obtain⟨rfl,rfl⟩:=hcp;have hvd1:=hvd;unfold D at hvd1;unfold j8 at hvd1;obtain⟨a,c,rfl,_⟩:=hvd1;refine⟨_,.int .i64 0,w,G1,by simp only[N8,run_copy_none t u ty e i ht hi a l c ax news.length cx i9,Q8,a1E],.inl rfl,e1,e2,a0z,Bl.refl _ _⟩
      . rename_i hn0;simp only[p9,s6]at hcp;obtain⟨rfl,rfl⟩:=hcp;have hnle:(news.take l).length≤l:=I3;have hnle2:(news.take l).length≤news.length:=I3;have hlenE:(es.take o++news.take l++es.drop (o+(news.take l).length)).length=es.length:=(by grind);have hmk':∀a t k2,(if a<(news.take l).length then mk a t else none)=some k2→a<(news.take l).length∧k2≠k∧(∃g2,(m6 h ws)[k2]?=some (g2,.dead))∧(G1.R (root k2)→¬G1.Z (G1.β (root k2))):=fun a t k2 hm=>by
         split at hm
         . grind
         . cases hm
        have hinj':∀a t a' t' k2,(if a<(news.take l).length then mk a t else none)=some k2→(if a'<(news.take l).length then mk a' t' else none)=some k2→a=a'∧t=t':=fun a t a' t' k2 h1 h2=>by
         split at h1
         . grind
         . cases h1
        have hvd1:=hvd.ext e2;unfold D at hvd1;unfold j8 at hvd1;obtain⟨a,c,rfl,q1,q2,q3,gn,ob,q4,q5,q6⟩:=hvd1;rw[hh1]at q4;cases q4;obtain⟨_,q7⟩:=q6 rfl _ _ _ _ rfl;obtain⟨_,q8,q9⟩:=q7 hgl;have hob:=e1.ob k _ _ hh1;unfold E5 at hob;obtain⟨o1,o2,o3,o4,o5⟩:=hob;have hR:G1.R (root k):=Classical.byContradiction fun hn'=>by have:=o5 hn';subst this;simp at hgl;omega
        obtain⟨us,T,o6,o7,o8⟩:=o4 hR;obtain⟨f,rfl,q10,q11,q12⟩:=q8 hR;have hf:f=o*i.size:=i9;subst hf;obtain⟨b,fx,rfl,hV⟩:=hax.resolve_left i9;have hVl:=a5Y V ((news.take l).length*i.size);have hfit:o*i.size+(T8 V ((news.take l).length*i.size)).length≤us.size:=by rw[hVl,o7,←Q9];exact Z4 _ i9
        have hrun:=c2V (P:=P) (w:=w) t u ty e i ht hi T (G1.β (root k)) (o*i.size) l c us o6 ⟨b,fx,none⟩ news.length cx (T8 V ((news.take l).length*i.size)) (by rw[hVl,hn]) (fun j u hj=>by
         have hj':j<(news.take l).length*i.size:=(by grind);rw[a3c hj']at hj;cases hj;rw[Addr.add_lit];exact hV j (a9z hj' (Z4 _ hnle2))) (fun u hu=>by obtain⟨q,hq,rfl⟩:=E9.1 hu;exact b8s hpos e3.cells (a9z (by simpa using hq) (Z4 _ hnle2))) hfit
        rw[←hn]at hrun;obtain⟨G2,d1,d2,d3,d4,d5⟩:=a7t (ver':=ver+1) (γ0:=G1.γ (root k)) (b:=G1.β (root k)) (l:=o) (us:=us) (T0:=T) (T:=T) (us':=Y8 us (o*i.size) (T8 V ((news.take l).length*i.size))) (w':=w.setRow (G1.β (root k)) (Y8 us (o*i.size) (T8 V ((news.take l).length*i.size)))) e1 hh1 hsrc'.cells hmk' hinj' i9 (.inr rfl) (.inl ⟨hR,rfl,rfl⟩)
         (setRow_heap w _ us _ T (0,0) o6) (fun x _ hx=>setRow_other w _ _ _ hx) k7 (by rw[a6v hfit];exact o7) (by rw[hlenE];omega) o3 (fun _=>o6)
         (fun q hq=>by rw[a3K hfit,if_pos (by rw[hVl];omega),show o*i.size+q-o*i.size=q by omega];exact a3c hq)
         (fun a j hj ha hna=>by
          rw[a3K hfit,if_neg ?_];rw[hVl];rintro⟨z1,z2⟩;by_cases hal:a<o
          . have:(a+1)*i.size≤o*i.size:=Z4 _ i9;rw[Q9]at this;omega
          . have:(o+(news.take l).length)*i.size≤a*i.size:=Z4 _ i9;rw[Q9]at this;omega)
        refine⟨_,.int .i64 ((news.take l).length:Nat),_,G2,by simp only[N8,hrun,Q8,a1E];rfl,.inl rfl,by rw[hupd];exact d1,by rw[hupd];exact e2.trans d2,a0z,a6a (Bl.refl _ _) (e1.lv _ hR).1 _ (by assumption)⟩
    . cases hcp
  . cases hcp
end
end
section
variable{P:Program}{B:Nat}{Z0:Nat→Prop}{G:Gh}{h:l5}{w:World}
def a2h(s:ByteArray):List Value:=s.data.toList.map fun b=>.int .u8 b.toNat
theorem c2x(w:World)(size:Nat)(s:ByteArray):(Builtin.firstCells size s.size (.string s)).run P w=.ok (a2h s).toArray w:=by
 have:s.extract 0 s.size=s:=by apply ByteArray.ext;simp
 simp[Builtin.firstCells,a2h,this];apply Array.ext';simp
theorem a4f.ofString(t u ty e:TypeId)(i:TypeInfo)(zv:Value)(ht:P.underlying t=some (.slice e))(hu:P.underlying u=some .string)(hi:P.info? e=some i)(hiz:i.zero=some zv)(h1:i.size=1)(hb0:i.bytes≠0)(s:ByteArray):
 a4f P w e i zv (fun v=>Builtin.append_ #[t,u] ty #[v,.string s]) s.size (a2h s):=by
 have hfs:=fun w=>c2x (P:=P) w i.size s;refine⟨fun hn0 a l c hlc=>?_,fun hn0 T g l c cur hg hroom hb hfit h1'=>?_,fun hn0 hb hl=>?_,fun hn0 b l c olds ho hov hg hl hb=>?_⟩
 . have he:a2h s=[]:=by
    have:s.data.toList.length=0:=(by simpa using hn0);unfold a2h;rw[a0Q.1 this];rfl
   have hf0:=hfs w;rw[hn0,he]at hf0;cases a<;>simp[Builtin.append_,run_underlying ht,run_underlying hu,sizeOf,typeInfo,hi,hn0,hlc,Builtin.lenOf,hf0,storeCells]
 . have hst:=run_storeCells_at P g (l*i.size) T (a2h s) 0 cur w hg (by simpa using hfit) h1';simp only[a3t]at hst;simp[Builtin.append_,run_underlying ht,run_underlying hu,sizeOf,typeInfo,hi,hroom,Builtin.lenOf,hfs,Addr.add_lit,hst,Y8]
 . have h48:¬(281474976710656<Builtin.nextslicecap s.size 0*i.bytes):=(by rw[nextslicecap_zero i9];omega);simp[Builtin.append_,run_underlying ht,run_underlying hu,sizeOf,typeInfo,hi,hn0,zeroValue,hiz,h48,hb0,Builtin.lenOf,hfs,Question.forced,run_firstCells_none,newRow,grownCap]
 . have hg':¬(l+s.size≤c):=i9;have h48:¬(281474976710656<Builtin.nextslicecap (l+s.size) c*i.bytes):=(by have:=growslice_fits hg hb;omega);have hfo:=run_firstCells_some (P:=P) w.drew i.size l b l c olds ho (by simpa using hov);simp[Builtin.append_,run_underlying ht,run_underlying hu,sizeOf,typeInfo,hi,hn0,zeroValue,hiz,h48,hg',hb0,Builtin.lenOf,hfs,Question.forced,hfo,newRow,grownCap];congr 2;apply Array.ext';simp
theorem c5O(hr:p7 B Z0 G h w){hide:List Nat}{t u ty e:TypeId}{k by_:Nat}{s:Value}{ps v:PV}{b:ByteArray}{ws':List (Nat×Row)}(hk:k<h.length∧hide.contains k=false)(ht:P.underlying t=some (.slice e))(hu:P.underlying u=some .string)(hs:H8 P e=some 1)(hb:a4v P e=some by_)(hz:a0c P e=some (.int .u8 0))
 (hb0:by_≠0) (hvs:j8 G h w D s ps) (happ:a1r (l8 h hide) k 1 by_ ps (b.data.toList.map fun x=>.int .u8 x.toNat)=some (v,ws')):
 Good P B Z0 G h w (do pure (.value (←Builtin.append_ #[t,u] ty #[s,.string b]))) v ws':=by
 obtain⟨i,zv,hi,hiz,hzv⟩:=a4r hz;obtain⟨i',hi',h1⟩:=a1h hs;rw[hi]at hi';cases hi';have hby:i.bytes=by_:=by unfold a4v at hb;rw[hi]at hb;simpa using hb
 have hzv':zv=.int .u8 0:=by exact V0 (a7b (G:=G) (h:=h) (w:=w) hzv).1
 subst hzv';have hA:=a4f.ofString (P:=P) (w:=w) t u ty e i (.int .u8 0) ht hu hi hiz h1 i9 b;have hlen:(b.data.toList.map fun x=>PV.int .u8 x.toNat).length=b.size:=k7;have hV:a2h b=T8 (fun q=>(a2h b).getD q (.int .u8 0)) ((b.data.toList.map fun x=>PV.int .u8 x.toNat).length*i.size):=by
  rw[h1,Nat.mul_one];apply a4F;intro q;by_cases hq:q<b.size
  . have hq':q<(b.data.toList.map fun x=>PV.int .u8 x.toNat).length:=(by rw[hlen];exact hq);rw[a3c hq'];have:q<(a2h b).length:=(by simpa[a2h]using hq);rw[u9,l9 this];rfl
  . rw[a0f (by simp[a2h];simpa using hq),a0f (by rw[a5Y,hlen];omega)]
 rw[←hlen,hV]at hA;have:=b4l (P:=P) (e:=e) (i:=i) (zv:=.int .u8 0) (A:=fun s=>Builtin.append_ #[t,u] ty #[s,.string b]) (ws:=[]) (G1:=G) (V:=fun q=>(a2h b).getD q (.int .u8 0)) (mk:=fun _ _=>none) hr hk (by rw[h1];rfl) i9 hby hb0 hvs k7 (by rw[h1];exact happ) hr Ext.refl ?_ (fun _ _=>rfl) (fun _ _ _ e=>absurd e k7) (fun _ _ _ _ _ e=>absurd e k7) hA
 . simpa using this
 . intro j d hd;rw[H5]at hd;obtain⟨x,hx,rfl⟩:=C5.1 hd;refine⟨by rw[h1];rfl,fun t c hc=>?_⟩;have:t=0∧c=.int .u8 x.toNat:=by
    cases t with
    |zero=>simp[l6]at hc;exact⟨rfl,hc.symm⟩
    |succ t=>simp[l6]at hc
   obtain⟨rfl,rfl⟩:=this;refine⟨rfl,?_⟩;have hj:(a2h b).getD (j*i.size+0) (.int .u8 0)=.int .u8 x.toNat:=by rw[h1,Nat.mul_one,a3t,u9];simp[a2h,hx]
   show j8 G (m6 h []) w D ((a2h b).getD (j*i.size+0) (.int .u8 0)) _;rw[hj];exact a0z
end
end Go.Proofs.YtbhfgadikmfjdaaGreat.Am
