/-
  The plain machine, that it is sound, and walks: part 1 (joined and shortened by a program of the prover's).
-/
import Derived.WalkKit
import Derived.WalkSpells
import Derived.WalkLawsBesides
import Derived.Lib.Hide
import Derived.Handy
import Derived.RangeFuncNested
import Derived.RangeFuncLeaves
import Derived.RangeFuncCalls
import Derived.OrdersIn
import Derived.LoopNIn
import Derived.CallsIn
import Derived.Scope
import Derived.Laws.Small
import Derived.Laws.CopyRow
import Derived.Laws.MakeOwn
import Derived.Laws.StructEq
import Derived.Laws.BytesString
set_option linter.unusedSimpArgs false
set_option linter.unusedVariables false
set_option linter.unusedSectionVars false
namespace Go.Proofs.YtmhbdebagfhimaaGreatDoor
section
abbrev B0:=@List.getD_eq_getElem?_getD
abbrev B5:=@List.all_eq_true
abbrev C0:=@List.getElem?_eq_some_iff
abbrev C4:=@List.getElem_mem
abbrev C9:=@Option.map_eq_some_iff
abbrev D0:=@List.mem_of_getElem?
abbrev E0:=@Nat.zero_le
abbrev E7:=@Bool.and_eq_true
abbrev E8:=@List.getElem?_set_self
abbrev F4:=@List.getElem?_set_ne
abbrev G7:=@List.mem_map
abbrev H5:=@List.mem_singleton
abbrev H6:=@List.getElem?_map
abbrev I5:=@List.mem_append
abbrev J5:=@List.take_add_one
abbrev K8:=@List.take_length
abbrev L6:=@List.map_set
abbrev N6:=@Sem.run_bind
abbrev O0:=@List.length_map
abbrev O1:=@List.map_congr_left
abbrev O5:=@Nat.add_mul
abbrev P5:=@Result.andThen_ok
abbrev S0:=@List.map_append
abbrev S9:=@List.length_cons
abbrev U3:=@Nat.le_trans
abbrev U4:=@Option.some.inj
abbrev V5:=@Nat.zero_add
abbrev X1:=@Option.bind_eq_some_iff
abbrev Y8:=@List.mem_cons
abbrev Z9:=@List.length_append
abbrev a0H:=@List.getElem?_take
abbrev a0I:=@List.contains_iff_mem
abbrev a0U:=@List.length_eq_zero_iff
abbrev a0V:=@List.getElem_map
abbrev a0h:=@Nat.mul_le_mul_right
abbrev a0i:=@List.getElem?_eq_none
abbrev a0s:=@List.map_cons
abbrev a0t:=@List.take_of_length_le
abbrev a0z:=@List.ext_getElem
abbrev a1H:=@Sem.run_pure
abbrev a1I:=@List.getElem_of_mem
abbrev a1J:=@Nat.blt_eq
abbrev a1U:=@Array.getElem?_eq_some_iff
abbrev a1V:=@List.length_take
abbrev a1W:=@List.findIdx?_eq_some_iff_getElem
abbrev a1j:=@Bool.or_eq_true
abbrev a1k:=@List.getElem?_append_left
abbrev a1v:=@List.append_nil
abbrev a2D:=@List.map_map
abbrev a2E:=@List.length_pos_iff
abbrev a2F:=@List.range_succ
abbrev a2U:=@List.getElem?_drop
abbrev a2V:=@List.drop_drop
abbrev a2W:=@Array.getElem?_append_left
abbrev a2X:=@List.map_drop
abbrev a2Y:=@Option.map_some
abbrev a2Z:=@List.flatMap_cons
abbrev a2o:=@List.append_assoc
abbrev a2p:=@List.mem_range
abbrev a3a:=@List.idxOf?_eq_none_iff
abbrev a3b:=@List.mem_flatMap
abbrev a3x:=@List.mem_cons_self
abbrev a4H:=@List.nil_append
abbrev a4I:=@List.getElem_range
abbrev a4J:=@List.length_set
abbrev a4K:=@List.nodup_cons
abbrev a4L:=@Option.getD_some
abbrev a4M:=@List.mem_append_left
abbrev a4N:=@Nat.lt_or_ge
abbrev a4O:=@List.length_drop
abbrev a4P:=@Int.le_trans
abbrev a4c:=@Bool.false_eq_true
abbrev a4d:=@Nat.add_zero
abbrev a4e:=@List.foldl_cons
abbrev a4f:=@List.getElem?_append_right
abbrev a4g:=@List.ext_getElem?
abbrev a4h:=@List.map_take
abbrev a4i:=@List.mem_cons_of_mem
abbrev a4j:=@Array.getD_eq_getD_getElem?
abbrev a4k:=@List.getElem_set
abbrev a5X:=@Option.bind_some
abbrev a5Y:=@List.size_toArray
abbrev a5Z:=@List.getElem?_toArray
abbrev a5m:=@Array.getElem?_append_right
abbrev a5n:=@Array.getElem?_eq_getElem
abbrev a5o:=@List.mem_or_eq_of_mem_set
abbrev a5p:=@List.prefix_refl
abbrev a5q:=@List.map_eq_nil_iff
abbrev a6U:=@List.length_nil
abbrev a6V:=@Array.size_append
abbrev a6W:=@Array.append_assoc
abbrev a6X:=@List.cons_append
abbrev a6Y:=@Bool.not_eq_true'
abbrev a6a:=@Nat.sub_self
abbrev a6b:=@Nat.le_of_lt
abbrev a6c:=@List.pairwise_iff_getElem
abbrev a6d:=@List.nodup_append
abbrev a6e:=@UInt8.toNat_inj
abbrev a7U:=@List.mem_filter
abbrev a7V:=@List.mem_append_right
abbrev a7W:=@Array.getElem?_replicate
abbrev a7X:=@List.eq_replicate_iff
abbrev a7Y:=@List.getElem?_set
abbrev a7Z:=@Nat.not_lt_zero
abbrev a8a:=@Nat.mul_le_mul
abbrev a9G:=@List.take_append_drop
abbrev a9H:=@List.eq_of_mem_replicate
abbrev a9I:=@Nat.lt_of_lt_of_le
abbrev a9J:=@List.mem_filterMap
abbrev a9K:=@List.length_eq_one_iff
abbrev a9L:=@List.exists_cons_of_ne_nil
abbrev a9M:=@List.nodup_iff_pairwise_ne
abbrev a9N:=@Option.toList_some
abbrev a9O:=@Array.size_push
abbrev b1Z:=@Nat.lt_or_gt_of_ne
abbrev b2a:=@List.foldl_append
abbrev b2b:=@Array.eq_empty_of_size_eq_zero
abbrev b2c:=@List.findIdx?_eq_none_iff
abbrev b2d:=@List.filter_append
abbrev b2e:=@Array.size_eq_zero_iff
abbrev b2f:=@List.length_replicate
abbrev b2g:=@List.length_singleton
abbrev b2h:=@List.mem_of_mem_take
abbrev b5p:=@World.putObj_heap_other
abbrev b5q:=@Array.getElem?_modify
abbrev b5r:=@List.drop_eq_nil_of_le
abbrev b5s:=@List.set_getElem_self
abbrev b5t:=@List.filterMap_append
abbrev b5u:=@List.drop_eq_getElem_cons
abbrev c2l:=@List.eq_nil_iff_forall_not_mem
abbrev l9:=@List.getElem?_eq_getElem
abbrev p7:=@Nat.le_refl
abbrev s5:=@Option.some.injEq
abbrev s9:=@Prod.mk.injEq
theorem j4{p:Prop}(h:p:=by omega):p:=h
theorem k8{p:Prop}(h:p:=by simp):p:=h
theorem u7{p:Prop}(h:p:=by dsimp only;omega):p:=h
theorem F6{p:Prop}(h:p:=by simp;omega):p:=h
theorem H9{p:Prop}(h:p:=by decide):p:=h
end
end Go.Proofs.YtmhbdebagfhimaaGreatDoor
namespace Go.Proofs.YtmhbdebagfhimaaGreatDoor.Am
inductive PV where
 |uu
 |bool(b:Bool)
 |int(k:IntKind)(n:Int)
 |str(s:ByteArray)
 |lit(v:Value)
 |nils
 |slc(es:List PV)
 |uslc(es:List PV)
 |own(k gen glen s off len:Nat)
 |osl(k gen glen s off len:Nat)
 |nown(k gen ver i j off len:Nat)
 |ptr(k gen off:Nat)
 |vsl(k gen off s len:Nat)
 |eptr(k gen glen s i j:Nat)
 |nptr(k gen ver s i j m l:Nat)
 |fptr(cs:List PV)
 |agg(cs:List PV)
 |tup(vs:List PV)
 |fn(f:Fn)(first captured:List PV)
 |any
 |mapv(k gen:Nat)
 |M6(ks vs:List PV)
 |ne
 deriving Inhabited
inductive Ob where
 |dead
 |var(cs:List PV)
 |arr(sz ver:Nat)(fr:Bool)(es:List PV)
 |mp(fr:Bool)(ks vs:List PV)
 deriving Inhabited
abbrev Row:=Nat×Ob
abbrev Heap:=List Row
def l6:PV→List PV
 | .agg cs=>cs
 |c=>[c]
inductive A6 where
 |l(i:Nat)
 |v(i:Nat)
 |c(p:PV)
 deriving Inhabited
inductive N3 where
 |mv(x:A6)
 |pick(c a b:A6)
 |alloc(k:Nat)(zs:List PV)
 |box(k:Nat)(x:A6)
 |build(zs:List PV)(parts:List (Nat×Nat×A6))
 |mkarr(k sz:Nat)(zs:List PV)(parts:List (Nat×A6))
 |lit(sz:Nat)(zs:List PV)(parts:List (Nat×A6))
 |load(agg:Bool)(sz:Nat)(a:A6)
 |loadV(agg:Bool)(sz:Nat)(a:A6)
 |store(sz:Nat)(a v:A6)
 |storeN(sz:Nat)(a v:A6)(av:List Nat)
 |nilchk(x:A6)
 |bin(op:BinOp)(bt:Bool)(x y:A6)
 |un(op:UnOp)(x:A6)
 |conv(k:IntKind)(x:A6)
 |convStr(x:A6)
 |makeSlice(k sz bytes:Nat)(z:PV)(len cap:A6)
 |slice(st:Bool)(sz:Nat)(x:A6)(lo hi mx:Option A6)
 |fieldAddr(off:Nat)(x:A6)
 |field(agg:Bool)(off sz:Nat)(x:A6)
 |indexAddr(sz:Nat)(x i:A6)
 |indexAddrA(n sz:Nat)(x i:A6)
 |indexS(x i:A6)
 |extract(x:A6)(i:Nat)
 |call(f:FuncId)(args:List A6)(ks:List (Nat×Nat))(al:Bool)
 |callv(f:A6)(args:List A6)
 |cally(f:A6)(args:List A6)
 |len(st:Bool)(x:A6)
 |minmax(mx:Bool)(xs:List A6)
 |append(k sz bytes mode:Nat)(s x:A6)
 |makeMap(k:Nat)(r:Option A6)
 |mapUpd(kt:Nat)(m x v:A6)
 |lookup(kt:Nat)(ok:Bool)(z:PV)(m x:A6)
 |lookupT(k kt sz:Nat)(z:PV)(m x:A6)
 |copy(sz:Nat)(d s:A6)
 |mkfn(f:Fn)(first captured:List A6)
 |allocA(k:Nat)(zs:List PV)
 |boxA(k:Nat)(x:A6)
 |loadA(n:Nat)(a:A6)
 |storeA(n:Nat)(a v:A6)
 |sliceV(n sz:Nat)(x:A6)(lo hi:Option A6)
 |eqS(neg:Bool)(ts:List Nat)(x y:A6)
 |eqNil(neg:Bool)(x y:A6)
 |eqPtr(neg:Bool)(x y:A6)
 |clearM(m:A6)
 |clearS(z:PV)(x:A6)
 deriving Inhabited
structure l5 where
 op:N3
 var:Option Nat
 guard:Option (A6×Bool)
 hide:List Nat
 deriving Inhabited
abbrev oq(o:N3):l5:=⟨o,none,none,[]⟩
abbrev ow(v:Nat)(o:N3):l5:=⟨o,some v,none,[]⟩
abbrev oi(n:Int):A6:=.c (.int .i64 n)
inductive C6 where
 |skip
 |reg(ops:List l5)
 |seq(a b:C6)
 |cond(c:A6)(a b:C6)
 |block(id:Nat)(b:C6)
 |loop(b:C6)
 |loopS(live:List Nat)(c0:Nat)(b:C6)
 |G6(l:List (Nat×Bool))(b:C6)
 |G4(v:Nat)(c:Option Nat)(k sz:Nat)(b:C6)
 |rfor(g:A6)(ps:List (Option Nat))(a b:C6)
 |exit(id:Nat)
 |ret
 deriving Inhabited
def a3G(k:IntKind)(a b:Int):Int:=k.wrap ((BitVec.ofInt k.bits a&&&BitVec.ofInt k.bits b).toNat)
def orI(k:IntKind)(a b:Int):Int:=k.wrap ((BitVec.ofInt k.bits a|||BitVec.ofInt k.bits b).toNat)
def b6Y(k:IntKind)(a b:Int):Int:=k.wrap ((BitVec.ofInt k.bits a^^^BitVec.ofInt k.bits b).toNat)
def b7e(k:IntKind)(a b:Int):Int:=k.wrap ((BitVec.ofInt k.bits a&&& ~~~(BitVec.ofInt k.bits b)).toNat)
def a6H(op:BinOp)(bt:Bool):PV→PV→Option PV
 | .int k a,.int c b=>match op with
  | .shl=>if b<0 then none else some (.int k (k.wrap (a*2^(min b.toNat k.bits))))
  | .shr=>if b<0 then none else some (.int k (a.fdiv (2^(min b.toNat k.bits))))
  |_=>if k=c then match op with
   | .add=>some (.int k (k.wrap (a+b)))
   | .sub=>some (.int k (k.wrap (a-b)))
   | .mul=>some (.int k (k.wrap (a*b)))
   | .quo=>if b=0 then none else some (.int k (k.wrap (a.tdiv b)))
   | .rem=>if b=0 then none else some (.int k (a.tmod b))
   | .and=>some (.int k (a3G k a b))
   | .or=>some (.int k (orI k a b))
   | .xor=>some (.int k (b6Y k a b))
   | .andNot=>some (.int k (b7e k a b))
   | .eql=>some (.bool (a==b))
   | .neq=>some (.bool (a !=b))
   | .lss=>some (.bool (a<b))
   | .leq=>some (.bool (a≤b))
   | .gtr=>some (.bool (a>b))
   | .geq=>some (.bool (a≥b))
   |_=>none else none
 | .bool a,.bool b=>if bt=false then none else match op with
  | .eql=>some (.bool (a==b))
  | .neq=>some (.bool (a !=b))
  |_=>none
 | .str a,.str b=>match op with
  | .eql=>some (.bool (a.toList==b.toList))
  | .neq=>some (.bool !(a.toList==b.toList))
  | .add=>if((a.size+b.size:Nat):Int)>IntKind.i64.max then none else some (.str (a++b))
  | .lss=>some (.bool (Op.bytesLess a.toList b.toList))
  | .geq=>some (.bool !(Op.bytesLess a.toList b.toList))
  |_=>none
 |_,_=>none
def P1:PV→Nat
 | .bool _=>0
 | .int _ _=>1
 | .str _=>2
 |_=>3
def a3X:List Nat→Nat
 | []=>0
 |t::ts=>t+1+4*a3X ts
def a1T:PV→Nat
 | .agg cs=>if cs.all (fun c=>P1 c !=3)then 4+a3X (cs.map P1)else 3
 |c=>P1 c
def a1d:PV→PV→Option Bool
 | .int k a,.int c b=>if k=c then some (a==b)else none
 | .str a,.str b=>some (a==b)
 | .bool a,.bool b=>some (a==b)
 |_,_=>none
def V7:List PV→List PV→Option Bool
 | [],[]=>some true
 |a::l,b::m=>match a1d a b,V7 l m with
  |some x,some y=>some (x&&y)
  |_,_=>none
 |_,_=>none
def a1g:PV→PV→Option Bool
 | .agg l,.agg m=>V7 l m
 |x,y=>a1d x y
def a0q(x:PV):List PV→Nat→Option (Option Nat)
 | [],_=>some none
 |e::ks,i=>match a1g x e with
  |some true=>some (some i)
  |some false=>a0q x ks (i+1)
  |none=>none
def fn0:PV→Bool
 | .fn (.func _) [] []=>true
 |_=>false
def unP(op:UnOp):PV→Option PV
 | .bool b=>match op with| .not=>some (.bool !b)|_=>none
 | .int k n=>match op with| .neg=>some (.int k (k.wrap (0-n)))|_=>none
 |_=>none
def Y1:PV→Bool
 | .agg _| .tup _| .uslc _| .uu| .fn .. =>false
 |_=>true
def one:PV→Bool
 | .fn _ a b=>a.all Y1&&b.all Y1
 |c=>Y1 c
def A7:PV→Bool
 | .bool _| .int _ _| .str _| .lit _| .slc _| .M6 _ _| .fptr _=>true
 |_=>false
def I7:PV→Bool
 | .uslc _| .nils=>true
 |_=>false
def K5:PV→PV
 | .uslc es=>.slc es
 | .nils=>.slc []
 |c=>c
def B6:PV→PV
 | .agg cs=>.agg (cs.map K5)
 |c=>K5 c
def D9(e:PV):Bool:=(l6 e).all fun c=>A7 c||I7 c
def a2y(agg:Bool)(sz:Nat)(cs:List PV)(off:Nat):Option PV:=
 if agg then(if off+sz≤cs.length then some (.agg ((cs.drop off).take sz))else none)else cs[off]?
def a1N(cs:List PV)(off:Nat):List PV→List PV
 | []=>cs
 |v::vs=>a1N (cs.set off v) (off+1) vs
def M4(e:PV)(j:Nat)(vs:List PV):PV:=
 match e with
 | .agg cs=>.agg (a1N cs j vs)
 |e=>vs.headD e
def ldC(k g ver i j:Nat):PV→PV
 | .uslc ns=>.nown k g ver i j 0 ns.length
 |c=>c
def a4y(k g ver i j:Nat):List PV→List PV
 | []=>[]
 |c::cs=>ldC k g ver i j c::a4y k g ver i (j+1) cs
abbrev Eff:=PV×List (Nat×Row)
abbrev D8:=Nat→Row
def a0o(lk:D8)(agg:Bool)(sz:Nat):PV→Option PV
 | .ptr k g o=>match lk k with
  |(a,.var cs)=>if a=g then a2y agg sz cs o else none
  |_=>none
 | .eptr k g b s i j=>match lk k with
  |(a,.arr s' ver _ es)=>if a=g∧es.length=b∧s'=s then(match es[i]? with
   |some e=>match a2y agg sz (l6 e) j with
    |some (.agg cs)=>if agg then some (.agg (a4y k g ver i j cs))else none
    |some c=>some (ldC k g ver i j c)
    |none=>none
   |none=>none)else none
  |_=>none
 | .nptr k g ver s i j m l=>match lk k with
  |(a,.arr _ ver' _ es)=>if a=g∧ver'=ver then(match es[i]? with
   |some e=>match(l6 e)[j]? with
    |some (.uslc ns)=>match ns[m]? with
     |some x=>if(l6 x).length=s then a2y agg sz (l6 x) l else none
     |none=>none
    |_=>none
   |none=>none)else none
  |_=>none
 | .fptr cs=>a2y agg sz cs 0
 |_=>none
def a4F(lk:D8):PV→Option (PV×List Nat)
 | .own k g a s o l=>match lk k with
  |(b,.arr s' _ fr es)=>if b=g∧es.length=a∧s'=s∧o=0∧l=a∧es.all D9=true then(if fr then some (.slc (es.map B6),[])else some (.uslc (es.map B6),[k]))else none
  |_=>none
 | .nown .. | .nptr .. | .uu| .uslc _| .agg _| .tup _| .fn .. | .any=>none
 |c=>some (c,[])
def a2b(lk:D8):List PV→Option (List PV×List Nat)
 | []=>some ([],[])
 |c::cs=>match a4F lk c,a2b lk cs with
  |some (d,ks),some (a,ls)=>if ks.all (fun k=>!ls.contains k)then some (d::a,ls++ks)else none
  |_,_=>none
def reE:PV→List PV→PV
 | .agg _,a=>.agg a
 |e,a=>a.headD e
def a7P(lk:D8)(e:PV):Option (PV×List Nat):=match a2b lk (l6 e)with
 |some (a,ks)=>some (reE e a,ks)
 |none=>none
def a3Q(lk:D8):List PV→Option (List PV×List Nat)
 | []=>some ([],[])
 |c::cs=>match a7P lk c,a3Q lk cs with
  |some (d,ks),some (a,ls)=>if ks.all (fun k=>!ls.contains k)then some (d::a,ls++ks)else none
  |_,_=>none
def kill(lk:D8)(ks:List Nat):List (Nat×Row):=ks.map fun k=>(k,((lk k).1,.dead))
def a5b(lk:D8)(sz:Nat)(a v:PV):Option (List (Nat×Row)):=
 if(l6 v).length=sz then
  match a with
  | .ptr k g o=>match lk k with
   |(b,.var cs)=>if b=g∧o+sz≤cs.length∧(l6 v).all one=true then some [(k,(g,.var (a1N cs o (l6 v))))]else none
   |_=>none
  | .eptr k g f s i j=>match lk k with
   |(b,.arr c ver fr es)=>if b=g∧es.length=f∧c=s∧fr=false then(match es[i]? with
    |some e=>if j+sz≤(l6 e).length then(match a2b lk (l6 v)with
     |some (d,ks)=>if ks.contains k then none else
      some (kill lk ks++[(k,(g,.arr c (if(((l6 e).drop j).take sz).any I7||d.any I7 then ver+1 else ver) fr (es.set i (M4 e j d))))])
     |none=>none)else none
    |none=>none)else none
   |_=>none
  | .nptr k g ver s i j m l=>match lk k with
   |(b,.arr c ver' fr es)=>if b=g∧ver'=ver∧fr=false then(match es[i]? with
    |some e=>match(l6 e)[j]? with
     |some (.uslc ns)=>match ns[m]? with
      |some x=>if(l6 x).length=s∧l+sz≤s∧(l6 v).all A7=true then
       some [(k,(g,.arr c ver fr (es.set i (M4 e j [.uslc (ns.set m (M4 x l (l6 v)))]))))]else none
      |none=>none
     |_=>none
    |none=>none)else none
   |_=>none
  |_=>none
 else none
def asInt:PV→Option Int
 | .int _ n=>some n
 |_=>none
def sliceB(n:Nat)(lo hi mx:Option PV):Option (Nat×Nat):=
 match(match hi with|some v=>asInt v|none=>some (n:Int)),(match lo with|some v=>asInt v|none=>some 0)with
 |some h,some l=>if 0≤l∧l≤h∧h≤n then(match mx with
  |none=>some (l.toNat,h.toNat)
  |some v=>if hi.isSome∧asInt v=some h then some (l.toNat,h.toNat)else none)else none
 |_,_=>none
def a3w(sz:Nat)(es:List PV):Bool:=es.all fun e=>(l6 e).length==sz
def isStr:PV→Bool
 | .str _=>true
 |_=>false
def a7b(st:Bool)(sz:Nat)(x:PV)(lo hi mx:Option PV):Option PV:=
 if isStr x !=st then none else match x with
 | .slc es=>match sliceB es.length lo hi mx with
  |some (l,h)=>if l=0∨a3w sz es=true then some (.slc ((es.drop l).take (h-l)))else none
  |none=>none
 | .own k g a s o n=>if mx.isSome then(match sliceB n lo hi mx with
  |some (l,h)=>if lo.isSome=false∧sz=s∧l=0∧o=0∧h=a then some (.own k g a s 0 a)else if sz=s then some (.osl k g a s (o+l) (h-l))else none
  |none=>none)else match sliceB n lo hi none with
  |some (l,h)=>if sz=s then some (.own k g a s (o+l) (h-l))else none
  |none=>none
 | .osl k g a s o n=>match sliceB n lo hi mx with
  |some (l,h)=>if sz=s then some (.osl k g a s (o+l) (h-l))else none
  |none=>none
 | .nown k g ver i j o n=>if mx.isSome then none else match sliceB n lo hi none with
  |some (l,h)=>if l=0 then some (.nown k g ver i j o h)else none
  |none=>none
 | .nils=>match sliceB 0 lo hi mx with
  |some _=>some .nils
  |none=>none
 | .str s=>if mx.isSome then none else match sliceB s.size lo hi none with
  |some (l,h)=>some (.str (s.extract l h))
  |none=>none
 |_=>none
def b0W(st:Bool)(x:PV):Option Nat:=if isStr x !=st then none else match x with
 | .slc es=>some es.length
 | .own _ _ _ _ _ l=>some l
 | .osl _ _ _ _ _ l=>some l
 | .nown _ _ _ _ _ _ l=>some l
 | .vsl _ _ _ _ l=>some l
 | .nils=>some 0
 | .ne=>some 0
 | .str s=>some s.size
 |_=>none
def a9W(sz:Nat)(x:PV)(i:Int):Option PV:=
 if 0≤i then
  match x with
  | .slc es=>match es[i.toNat]? with
   |some e=>if(l6 e).length=sz∧sz≠0 then some (.fptr (l6 e))else none
   |none=>none
  | .own k g a s o l=>if i<l∧sz=s then some (.eptr k g a s (o+i.toNat) 0)else none
  | .osl k g a s o l=>if i<l∧sz=s then some (.eptr k g a s (o+i.toNat) 0)else none
  | .nown k g ver b c o l=>if i<l then some (.nptr k g ver sz b c (o+i.toNat) 0)else none
  | .vsl k g o s l=>if i<l∧sz=s then some (.ptr k g (o+i.toNat*s))else none
  |_=>none
 else none
def a4s(off:Nat):PV→Option PV
 | .ptr k g o=>some (.ptr k g (o+off))
 | .eptr k g a s i j=>some (.eptr k g a s i (j+off))
 | .nptr k g ver s i j m l=>some (.nptr k g ver s i j m (l+off))
 | .fptr cs=>if off<cs.length then some (.fptr (cs.drop off))else none
 |_=>none
def b1c(sz:Nat)(p:PV)(m:Nat):Option PV:=match p with
 | .eptr k g a s i j=>if s=sz∧j=0∧i+m<a then some (.eptr k g a s (i+m) 0)else a4s (m*sz) (.eptr k g a s i j)
 |p=>a4s (m*sz) p
def a6J(lk:D8)(n:Nat)(p:PV):Option PV:=match p with
 | .eptr k g a s i j=>if a=n∧s=1∧i=0∧j=0 then(match lk k with
  |(b,.arr sz _ _ es)=>if b=g∧es.length=n∧sz=1∧es.all A7=true then some (.agg es)else none
  |_=>none)else a0o lk true n (.eptr k g a s i j)
 |p=>a0o lk true n p
def a7N(lk:D8)(n:Nat)(p v:PV):Option (List (Nat×Row)):=match p with
 | .eptr k g a s i j=>if a=n∧s=1∧i=0∧j=0 then(match v with
  | .agg cs=>match lk k with
   |(b,.arr sz ver fr es)=>if b=g∧es.length=n∧sz=1∧fr=false∧es.all A7=true∧cs.length=n∧cs.all A7=true then some [(k,(g,.arr 1 ver false cs))]else none
   |_=>none
  |_=>none)else a5b lk n (.eptr k g a s i j) v
 |p=>a5b lk n p v
def b0P(n sz:Nat)(p:PV)(lo hi:Option PV):Option PV:=match p with
 | .ptr k g o=>if n≤1000000 then(match sliceB n lo hi none with
  |some (l,h)=>some (.vsl k g (o+l*sz) sz (h-l))
  |none=>none)else none
 |_=>none
def b0N:PV→Option Bool
 | .nils=>some true
 | .ne=>some false
 | .slc es=>if es.length=0 then none else some false
 | .own _ _ _ _ _ l=>if l=0 then none else some false
 | .nown _ _ _ _ _ _ l=>if l=0 then none else some false
 |_=>none
def eqC(t:Nat):PV→PV→Option Bool
 | .int k a,.int c b=>if t=1∧k=c then some (a==b)else none
 | .bool a,.bool b=>if t=0 then some (a==b)else none
 | .str a,.str b=>if t=2 then some (a.toList==b.toList)else none
 |_,_=>none
def a5j:List Nat→List PV→List PV→Option Bool
 | [],[],[]=>some true
 |t::ts,a::l,b::m=>match eqC t a b,a5j ts l m with
  |some x,some y=>some (x&&y)
  |_,_=>none
 |_,_,_=>none
def a6R:PV→Option UInt8
 | .int k n=>if k=.u8 then some (UInt8.ofNat n.toNat)else none
 |_=>none
def a0n:List PV→Option (List UInt8)
 | []=>some []
 |c::cs=>match a6R c,a0n cs with
  |some b,some a=>some (b::a)
  |_,_=>none
def a6P(cs:List PV):List (Nat×Nat×PV)→Option (List PV)
 | []=>some cs
 |(off,sz,v)::r=>if(l6 v).length=sz∧off+sz≤cs.length∧(l6 v).all one=true then a6P (a1N cs off (l6 v)) r else none
def a1M:PV→PV
 | .nils=>.slc []
 |c=>c
def a7f:PV→PV
 | .agg cs=>.agg (cs.map a1M)
 |c=>a1M c
def a3Y(sz:Nat)(es:List PV):List (Nat×PV)→Option (List PV)
 | []=>some es
 |(i,v)::r=>if(l6 v).length=sz∧i<es.length∧(l6 v).all one=true then a3Y sz (es.set i v) r else none
def a2R(lk:D8)(mode:Nat):PV→Option (List PV×List (Nat×Row))
 | .slc es=>some (es,[])
 | .nils=>some ([],[])
 | .own k g b s o l=>match lk k with
  |(a,.arr sz ver fr es)=>if a=g∧es.length=b∧sz=s∧o+l≤b then
   (if mode=1 then(match a3Q lk ((es.drop o).take l)with
    |some (c,ks)=>if ks.contains k then none else some (c,kill lk (ks++[k]))
    |none=>none)
   else if es.all D9=true∧(mode=2→es.all (fun e=>(l6 e).all A7)=true)then some (((es.drop o).take l).map B6,if es.all (fun e=>(l6 e).all A7)then []else [(k,(g,.arr sz (ver+1) fr (es.map B6)))])else none)else none
  |_=>none
 | .nown k g ver i j o l=>match lk k with
  |(a,.arr _ ver' _ es)=>if a=g∧ver'=ver then(match es[i]? with
   |some e=>match(l6 e)[j]? with
    |some (.uslc ns)=>if o=0∧l≤ns.length then some (ns.take l,[])else none
    |_=>none
   |none=>none)else none
  |_=>none
 |_=>none
def a9x:PV→Option (List PV×List (Nat×Row))
 | .str s=>some (s.data.toList.map (fun b=>.int .u8 b.toNat),[])
 |_=>none
def a1P(lk:D8)(mode:Nat)(p:PV):Option (List PV×List (Nat×Row)):=if mode=5 then a9x p else a2R lk mode p
def a1R(lk:D8)(k sz bytes:Nat)(s:PV)(news:List PV):Option Eff:=
 match s with
 | .nils=>if news.length*bytes≤140737488355328 then some (.own k ((lk k).1+1) news.length sz 0 news.length,[(k,((lk k).1+1,.arr sz 0 false news))])else none
 | .ne=>if news.length≠0∧news.length*bytes≤140737488355328 then some (.own k ((lk k).1+1) news.length sz 0 news.length,[(k,((lk k).1+1,.arr sz 0 false news))])else none
 | .own a g b s o l=>match lk a with
  |(c,.arr d ver fr es)=>if c=g∧es.length=b∧d=sz∧s=sz∧fr=false∧o=0∧l≤b∧(l+news.length)*bytes≤140737488355328 then
   (if l=b then some (.own a g (b+news.length) sz 0 (b+news.length),[(a,(g,.arr sz ver fr (es++news)))])
    else some (.own a g (es.take l++news++es.drop (l+news.length)).length sz 0 (l+news.length),[(a,(g,.arr sz (ver+1) fr (es.take l++news++es.drop (l+news.length))))]))else none
  |_=>none
 |_=>none
def a5f(k:Nat):PV→Nat
 | .own a _ _ _ _ _=>a
 |_=>k
def b0o:PV→Bool
 | .own .. =>true
 |_=>false
def a9w(k mode sz:Nat)(s:PV)(news:List PV)(ws:List (Nat×Row)):Bool:=
 !(ws.map (·.1)).contains (a5f k s)&&(mode !=2||(b0o s&&a5f k s==k))&&a3w sz news
def a6g(mx:Bool):Int→List PV→Option Int
 |m,[]=>some m
 |m,.int _ y::r=>a6g mx (if mx then(if y>m then y else m)else(if y<m then y else m)) r
 |_,_=>none
def a7t(lk:D8)(sz:Nat)(d:PV)(news:List PV)(ws:List (Nat×Row)):Option Eff:=
 if a3w sz news then match d with
  | .nils=>some (.int .i64 0,ws)
  | .own k g a s o l=>match lk k with
   |(b,.arr c ver fr es)=>if b=g∧es.length=a∧c=sz∧s=sz∧fr=false∧o+l≤a∧(ws.map (·.1)).contains k=false then
    (if(news.take l).length=0 then some (.int .i64 0,ws)else some (.int .i64 ((news.take l).length:Nat),ws++[(k,(g,.arr sz (ver+1) fr (es.take o++news.take l++es.drop (o+(news.take l).length))))]))else none
   |_=>none
  | .osl k g a s o l=>match lk k with
   |(b,.arr c ver fr es)=>if b=g∧es.length=a∧c=sz∧s=sz∧fr=false∧o+l≤a∧(ws.map (·.1)).contains k=false then
    (if(news.take l).length=0 then some (.int .i64 0,ws)else some (.int .i64 ((news.take l).length:Nat),ws++[(k,(g,.arr sz (ver+1) fr (es.take o++news.take l++es.drop (o+(news.take l).length))))]))else none
   |_=>none
  |_=>none
 else none
def mvS(c:PV):Bool:=A7 c||I7 c||fn0 c
def mvR:PV→Bool
 | .nils=>true
 | .agg cs=>cs.all A7
 |c=>A7 c||fn0 c
def a6t(lk:D8)(v:PV):Option (PV×List Nat):=if one v=true then a4F lk v else if mvR v=true then some (v,[])else none
def a7u(lk:D8)(kt:Nat)(m x v:PV):Option Eff:=match m with
 | .mapv k g=>match lk k with
  |(a,.mp fr ks vs)=>if a=g∧fr=false∧a1T x=kt∧kt≠3 then(match a6t lk v with
   |some (d,kl)=>if kl.contains k then none else(match a0q x ks 0 with
    |some (some i)=>some (.uu,kill lk kl++[(k,(g,.mp false ks (vs.set i d)))])
    |some none=>some (.uu,kill lk kl++[(k,(g,.mp false (ks++[x]) (vs++[d])))])
    |none=>none)
   |none=>none)else none
  |_=>none
 |_=>none
def a3S(kt:Nat)(ok:Bool)(z x:PV)(ks vs:List PV):Option Eff:=
 if a1T x=kt∧kt≠3 then(match a0q x ks 0 with
  |some (some i)=>match vs[i]? with
   |some c=>if mvR c=true then some (if ok then .tup [c,.bool true]else c,[])else none
   |none=>none
  |some none=>some (if ok then .tup [z,.bool false]else z,[])
  |none=>none)else none
def a7i(lk:D8)(kt:Nat)(ok:Bool)(z m x:PV):Option Eff:=match m with
 | .mapv k g=>match lk k with
  |(a,.mp _ ks vs)=>if a=g then a3S kt ok z x ks vs else none
  |_=>none
 | .M6 ks vs=>a3S kt ok z x ks vs
 | .lit (.map none)=>a3S kt ok z x [] []
 |_=>none
def a5V(lk:D8)(a kt sz:Nat)(z m x:PV):Option Eff:=match m with
 | .mapv k g=>match lk k with
  |(b,.mp fr ks vs)=>if b=g∧a1T x=kt∧kt≠3∧k≠a then(match a0q x ks 0 with
   |some (some i)=>match vs[i]? with
    |some (.uslc ns)=>if fr=false then(match lk a with
     |(g3,.dead)=>if 0<ns.length∧a3w sz ns=true then some (.own a (g3+1) ns.length sz 0 ns.length,[(k,(g,.mp false ks (vs.set i .any))),(a,(g3+1,.arr sz 0 false ns))])else none
     |_=>none)else none
    |some c=>if mvR c=true then some (c,[])else none
    |none=>none
   |some none=>some (z,[])
   |none=>none)else none
  |_=>none
 |_=>none
def a9R:PV→Option Bool
 | .lit (.pointer none)=>some true
 | .ptr .. | .eptr .. | .nptr .. | .fptr _=>some false
 |_=>none
def b0X:PV→Bool
 | .lit (.pointer none)=>true
 |_=>false
def a7p(lk:D8):PV→Option Eff
 | .mapv k g=>match lk k with
  |(a,.mp fr _ _)=>if a=g∧fr=false then some (.tup [],[(k,(g,.mp false [] []))])else none
  |_=>none
 | .lit (.map none)=>some (.tup [],[])
 |_=>none
def a7E(lk:D8)(z:PV):PV→Option Eff
 | .nils=>some (.tup [],[])
 | .nown k g ver i j o l=>match lk k with
  |(a,.arr s ver' fr es)=>if a=g∧ver'=ver∧fr=false∧o=0∧A7 z=true then(match es[i]? with
   |some e=>match(l6 e)[j]? with
    |some (.uslc ns)=>if ns.length=l∧a3w 1 ns=true then some (.tup [],[(k,(g,.arr s ver fr (es.set i (M4 e j [.uslc (List.replicate l z)]))))])else none
    |_=>none
   |none=>none)else none
  |_=>none
 |_=>none
def a1X(ws:List (Nat×Row)):PV→Bool
 | .ptr k _ _=>!(ws.map (·.1)).contains k
 | .eptr k _ _ _ _ _=>!(ws.map (·.1)).contains k
 | .nptr k _ _ _ _ _ _ _=>!(ws.map (·.1)).contains k
 | .fptr _=>true
 |_=>false
def avO(n:Nat):A6:=if Nat.blt n 1000000 then .l n else .v (n-1000000)
def A9(h:A6→PV)(lk:D8):N3→Option Eff
 | .mv x=>some (h x,[])
 | .pick c a b=>match h c with
  | .bool t=>some (if t then h a else h b,[])
  |_=>none
 | .alloc k zs=>if zs.all one then some (.ptr k ((lk k).1+1) 0,[(k,((lk k).1+1,.var zs))])else none
 | .box k x=>if(l6 (h x)).all one then some (.ptr k ((lk k).1+1) 0,[(k,((lk k).1+1,.var (l6 (h x))))])else none
 | .build zs parts=>match a6P zs (parts.map fun x=>(x.1,x.2.1,h x.2.2))with
  |some cs=>some (.agg cs,[])
  |none=>none
 | .mkarr k sz es parts=>match a3Y sz es (parts.map fun x=>(x.1,h x.2))with
  |some es=>some (.own k ((lk k).1+1) es.length sz 0 es.length,[(k,((lk k).1+1,.arr sz 0 false es))])
  |none=>none
 | .lit sz es parts=>if sz=0 then(if es.length=0 then some (.ne,[])else none)else match a3Y sz es (parts.map fun x=>(x.1,h x.2))with
  |some es=>if es.all (fun e=>(l6 (a7f e)).all A7)then some (.slc (es.map a7f),[])else none
  |none=>none
 | .load agg sz a=>match a0o lk agg sz (h a)with
  |some v=>some (v,[])
  |none=>none
 | .loadV agg sz a=>match h a with
  | .ptr k g o=>match a0o lk agg sz (.ptr k g o)with
   |some v=>some (v,[])
   |none=>none
  |_=>none
 | .store sz a v=>match a5b lk sz (h a) (h v)with
  |some ws=>some (.uu,ws)
  |none=>none
 | .storeN sz a v av=>match a5b lk sz (h a) (h v)with
  |some ws=>if av.all (fun n=>a1X ws (h (avO n)))=true then some (.uu,ws)else none
  |none=>none
 | .nilchk x=>match h x with
  | .ptr .. | .eptr .. | .nptr .. | .fptr .. =>some (h x,[])
  | .fn (.func f) a b=>some (.fn (.func f) a b,[])
  |_=>none
 | .bin op bt x y=>match a6H op bt (h x) (h y)with
  |some v=>some (v,[])
  |none=>none
 | .un op x=>match unP op (h x)with
  |some v=>some (v,[])
  |none=>none
 | .conv k x=>match h x with
  | .int _ n=>some (.int k (k.wrap n),[])
  |_=>none
 | .makeSlice k sz bytes z len cap=>match h len,h cap with
  | .int .i64 l,.int .i64 c=>if 0≤l∧l≤c∧c*bytes≤140737488355328∧c≤9223372036854775807 then
   some (.own k ((lk k).1+1) l.toNat sz 0 l.toNat,[(k,((lk k).1+1,.arr sz 0 false (List.replicate l.toNat z)))])else none
  |_,_=>none
 | .slice st sz x lo hi mx=>match a7b st sz (h x) (lo.map h) (hi.map h) (mx.map h)with
  |some v=>some (v,[])
  |none=>none
 | .fieldAddr off x=>match a4s off (h x)with
  |some v=>some (v,[])
  |none=>none
 | .field agg off sz x=>match h x with
  | .agg cs=>match a2y agg sz cs off with
   |some v=>some (v,[])
   |none=>none
  |_=>none
 | .indexAddr sz x i=>match h i with
  | .int _ n=>match a9W sz (h x) n with
   |some v=>some (v,[])
   |none=>none
  |_=>none
 | .indexAddrA n sz x i=>match h i with
  | .int _ m=>if 0≤m∧m<n then(match b1c sz (h x) m.toNat with
   |some v=>some (v,[])
   |none=>none)else none
  |_=>none
 | .indexS x i=>match h i,h x with
  | .int _ m,.str s=>if 0≤m then(match s.data.toList[m.toNat]? with
   |some b=>some (.int .u8 b.toNat,[])
   |none=>none)else none
  |_,_=>none
 | .extract x i=>match h x with
  | .tup vs=>match vs[i]? with
   |some v=>some (v,[])
   |none=>none
  |_=>none
 | .len st x=>match b0W st (h x)with
  |some n=>some (.int .i64 n,[])
  |none=>none
 | .minmax mx xs=>match xs.map h with
  | .int k n::r=>match a6g mx n r with
   |some m=>some (.int k m,[])
   |none=>none
  |_=>none
 | .append k sz bytes mode s x=>match a1P lk mode (h x)with
  |some (news,ws)=>if a9w k mode sz (h s) news ws then(match a1R lk k sz bytes (h s) news with
   |some (v,j)=>some (v,ws++j)
   |none=>none)else none
  |none=>none
 | .makeMap k r=>match r.map h with
  |none=>some (.mapv k ((lk k).1+1),[(k,((lk k).1+1,.mp false [] []))])
  |some (.int _ _)=>some (.mapv k ((lk k).1+1),[(k,((lk k).1+1,.mp false [] []))])
  |_=>none
 | .mapUpd kt m x v=>a7u lk kt (h m) (h x) (h v)
 | .lookup kt ok z m x=>a7i lk kt ok z (h m) (h x)
 | .lookupT k kt sz z m x=>a5V lk k kt sz z (h m) (h x)
 | .mkfn f a b=>if(a.map h).all one=true∧(b.map h).all one=true then some (.fn f (a.map h) (b.map h),[])else none
 | .copy sz d s=>match a1P lk 0 (h s)with
  |some (news,ws)=>a7t lk sz (h d) news ws
  |none=>none
 | .allocA k zs=>if zs.all A7=true∧0<zs.length∧zs.length≤1000000 then some (.eptr k ((lk k).1+1) zs.length 1 0 0,[(k,((lk k).1+1,.arr 1 0 false zs))])else none
 | .boxA k x=>if(l6 (h x)).all A7=true∧0<(l6 (h x)).length∧(l6 (h x)).length≤1000000 then some (.eptr k ((lk k).1+1) (l6 (h x)).length 1 0 0,[(k,((lk k).1+1,.arr 1 0 false (l6 (h x))))])else none
 | .loadA n a=>match a6J lk n (h a)with
  |some v=>some (v,[])
  |none=>none
 | .storeA n a v=>match a7N lk n (h a) (h v)with
  |some ws=>some (.uu,ws)
  |none=>none
 | .sliceV n sz x lo hi=>match b0P n sz (h x) (lo.map h) (hi.map h)with
  |some v=>some (v,[])
  |none=>none
 | .eqS neg ts x y=>match h x,h y with
  | .agg l,.agg m=>match a5j ts l m with
   |some b=>some (.bool (neg !=b),[])
   |none=>none
  |_,_=>none
 | .eqNil neg x y=>match b0N (h x),h y with
  |some b,.nils=>some (.bool (neg !=b),[])
  |_,_=>none
 | .eqPtr neg x y=>match a9R (h x)with
  |some b=>if b0X (h y)=true then some (.bool (neg !=b),[])else none
  |none=>none
 | .clearM m=>a7p lk (h m)
 | .clearS z x=>a7E lk z (h x)
 | .convStr x=>match a1P lk 2 (h x)with
  |some (news,_)=>match a0n news with
   |some p=>some (.str ⟨⟨p⟩⟩,[])
   |none=>none
  |none=>none
 | .call .. | .callv .. | .cally .. =>none
def fzO(lk:D8):PV→PV
 | .osl k g a s o l=>match lk k with
  |(b,.arr s' _ _ es)=>if b=g∧es.length=a∧s'=s∧o+l≤a∧es.all D9=true then .slc (((es.drop o).take l).map B6)else .uu
  |_=>.uu
 |c=>K5 c
def fzC(lk:D8):PV→PV
 | .own k g a s o l=>match lk k with
  |(c,.arr s' _ fr es)=>if c=g∧es.length=a∧s'=s∧o+l≤a then(if es.all D9=true then .slc (((es.drop o).take l).map B6)else if fr=false∧es.all (fun e=>A7 (fzO lk e))=true then .slc (((es.drop o).take l).map (fzO lk))else .uu)else .uu
  |_=>.uu
 | .osl k g a s o l=>match lk k with
  |(c,.arr s' _ _ es)=>if c=g∧es.length=a∧s'=s∧o+l≤a∧es.all D9=true then .slc (((es.drop o).take l).map B6)else .uu
  |_=>.uu
 | .nown k g ver i j o l=>match lk k with
  |(c,.arr _ ver' _ es)=>if c=g∧ver'=ver then(match es[i]? with
   |some e=>match(l6 e)[j]? with
    |some (.uslc ns)=>if o=0∧l≤ns.length then .slc (ns.take l)else .uu
    |_=>.uu
   |none=>.uu)else .uu
  |_=>.uu
 | .ne=>.slc []
 | .nils=>.slc []
 | .bool b=>.bool b
 | .int k n=>.int k n
 | .str t=>.str t
 | .lit v=>.lit v
 | .slc es=>.slc es
 | .M6 ks vs=>.M6 ks vs
 | .fptr cs=>.fptr cs
 |_=>.uu
def fzP(lk:D8):PV→PV
 | .ptr k g o=>match lk k with
  |(a,.var cs)=>if a=g∧((cs.drop o).map (fzC lk)).all A7=true then .fptr ((cs.drop o).map (fzC lk))else .uu
  |_=>.uu
 | .eptr k g b s i j=>match lk k with
  |(a,.arr s' _ _ es)=>if a=g∧es.length=b∧s'=s∧j=0 then(match es[i]? with
   |some e=>if((l6 e).map K5).all A7=true then .fptr ((l6 e).map K5)else .uu
   |none=>.uu)else .uu
  |_=>.uu
 |c=>fzC lk c
def fzV(lk:D8):PV→PV
 | .agg cs=>.agg (cs.map (fzC lk))
 |c=>fzP lk c
def a5t(lk:D8):PV→Bool
 | .own k _ _ _ _ _=>match(lk k).2 with
  | .arr _ _ true _=>false
  |_=>true
 | .osl k _ _ _ _ _=>match(lk k).2 with
  | .arr _ _ true _=>false
  |_=>true
 | .nown .. =>true
 | .mapv k _=>match(lk k).2 with
  | .mp true _ _=>false
  |_=>true
 | .ptr .. =>true
 | .eptr .. =>true
 |_=>false
def a1K(lk:D8)(v:PV):Bool:=(l6 v).any (a5t lk)
def b3M:PV→Bool
 | .slc _| .uslc _| .M6 _ _| .fptr _=>false
 |_=>true
def a6F:PV→Bool
 | .slc _| .M6 _ _| .fptr _=>false
 | .uslc es=>es.all fun e=>(l6 e).all b3M
 |_=>true
def a2I:PV→Bool
 | .slc _| .M6 _ _| .fptr _=>false
 | .uslc es=>es.all fun e=>(l6 e).all a6F
 |_=>true
def U2:PV→List PV
 | .tup vs=>vs
 |c=>[c]
def noS(r:PV):Bool:=(U2 r).all fun c=>(l6 c).all a2I
def M5(a:Nat×Nat)(gen:Nat→Nat):PV→PV
 | .uslc es=>.own a.1 (gen a.1) es.length a.2 0 es.length
 | .nils=>.nils
 | .bool b=>.bool b
 | .int k n=>.int k n
 | .str t=>.str t
 | .lit v=>.lit v
 | .slc es=>.slc es
 | .M6 ks vs=>.M6 ks vs
 | .fptr cs=>.fptr cs
 |_=>.uu
def a0K(ks:Nat→Nat×Nat)(gen:Nat→Nat):Nat→List PV→List PV
 |_,[]=>[]
 |p,c::cs=>M5 (ks p) gen c::a0K ks gen (p+1) cs
def a2i(ks:Nat→Nat×Nat)(gen:Nat→Nat)(p:Nat):PV→PV
 | .agg cs=>.agg (a0K ks gen p cs)
 |c=>M5 (ks p) gen c
def a1z(ks:Nat→Nat×Nat)(gen:Nat→Nat):Nat→List PV→List PV
 |_,[]=>[]
 |p,c::cs=>a2i ks gen p c::a1z ks gen (p+(l6 c).length) cs
def T4(ks:Nat→Nat×Nat)(gen:Nat→Nat):PV→PV
 | .tup vs=>.tup (a1z ks gen 0 vs)
 |c=>a2i ks gen 0 c
def B4(r:PV):List PV:=(U2 r).flatMap l6
def I3(ks:Nat→Nat×Nat)(gen:Nat→Nat):Nat→List PV→List (Nat×Row)
 |_,[]=>[]
 |p,.uslc es::cs=>((ks p).1,(gen (ks p).1,.arr (ks p).2 0 false es))::I3 ks gen (p+1) cs
 |p,_::cs=>I3 ks gen (p+1) cs
def a2u:List Nat→Bool
 | []=>true
 |k::l=>!l.contains k&&a2u l
def p8(h:Heap)(ws:List (Nat×Row)):Heap:=ws.foldl (fun h x=>h.set x.1 x.2) h
def l7(h:Heap)(hide:List Nat):D8:=fun k=>if hide.contains k then(0,.dead)else h.getD k (0,.dead)
def rOk(r:PV):Bool:=(B4 r).all fun c=>match c with
 | .uslc es=>es.all D9
 |_=>true
structure B3 where
 loc:List PV
 vars:List PV
 heap:Heap
def y9(loc vars:List PV):A6→PV
 | .l i=>loc.getD i .uu
 | .v i=>vars.getD i .uu
 | .c p=>p
def I8(vars:List PV)(k:Option Nat)(v:PV):List PV:=
 match k with
 |some k=>vars.set k v
 |none=>vars
def gdO(loc vars:List PV):Option (A6×Bool)→Option Bool
 |none=>some true
 |some (o,b)=>match y9 loc vars o with
  | .bool c=>some (c==b)
  | .tup []=>some false
  |_=>none
def M7(ks:List (Nat×Nat))(p:Nat):Nat×Nat:=ks.getD p (0,0)
def U0(lk:D8)(k:Nat):Nat:=(lk k).1+1
def a3k(n:Nat)(ks:List (Nat×Nat))(own:Bool)(r:PV):Bool:=
 let sites:=(I3 (M7 ks) (fun _=>0) 0 (B4 r)).map (·.1)
 rOk r&&a2u sites&&sites.all (fun k=>Nat.blt k n&&((ks.filter (·.2 !=0)).map (·.1)).contains k)&&(!own||noS r)
inductive O4 where
 |normal
 |exit(id:Nat)
 |ret
abbrev YT:=List PV→Heap→(Option O4→Heap→Prop)→Prop
structure N0 where
 fn:FuncId→List Nat→List PV→PV→Prop
 fi:PV→List PV→Heap→PV→List (Nat×Row)→Prop
 fy:PV→List PV→List PV→Heap→(PV→List PV→Heap→Prop)→Prop
 it:PV→YT→Heap→(Option O4→Heap→Prop)→Prop
 my:∀{v a vs h} {K K':PV→List PV→Heap→Prop},(∀r vs h,K r vs h→K' r vs h)→fy v a vs h K→fy v a vs h K'
 mi:∀{v Y h} {K K':Option O4→Heap→Prop},(∀p h,K p h→K' p h)→it v Y h K→it v Y h K'
def agr(hide:List Nat)(h h':Heap):Prop:=h'.length=h.length∧∀k,hide.contains k=false→h'[k]?=h[k]?
def a2e(hide:List Nat)(a:A6→PV)(ws:List (Nat×Row)):Bool:=ws.all (fun y=>!hide.contains y.1)&&hide.all fun n=>Nat.blt n 1000000||a1X ws (a (avO (n-1000000)))
def fiH(fi:PV→List PV→Heap→PV→List (Nat×Row)→Prop)(hide:List Nat)(b:A6→PV)(v:PV)(a:List PV)(h:Heap)(r:PV)(ws:List (Nat×Row)):Prop:=match hide with
 | []=>fi v a h r ws
 |k::l=>(∀h',agr (k::l) h h'→fi v a h' r ws)∧a2e (k::l) b ws=true
def a2K(p:PV):Bool:=(l6 p).all fun c=>A7 c||(match c with| .nils=>true|_=>false)
def E9(FN:N0):List l5→B3→(B3→Prop)→Prop
 | [],st,Q=>Q st
 |x::xs,st,Q=>match gdO st.loc st.vars x.guard with
  |none=>False
  |some false=>E9 FN xs ⟨st.loc++[.tup []],I8 st.vars x.var (.tup []),st.heap⟩ Q
  |some true=>match x.op with
   | .call f args ks al=>∃r,(al=true→args.all (fun a=>a2K (y9 st.loc st.vars a))=true)∧FN.fn f (ks.map (·.2)) (args.map fun a=>fzV (l7 st.heap x.hide) (y9 st.loc st.vars a)) r∧
    a3k st.heap.length ks ((args.map (y9 st.loc st.vars)).any (a1K (l7 st.heap x.hide))) r=true∧
    E9 FN xs ⟨st.loc++[T4 (M7 ks) (U0 (l7 st.heap x.hide)) r],I8 st.vars x.var (T4 (M7 ks) (U0 (l7 st.heap x.hide)) r),p8 st.heap (I3 (M7 ks) (U0 (l7 st.heap x.hide)) 0 (B4 r))⟩ Q
   | .callv f args=>∃r ws,fiH FN.fi x.hide (y9 st.loc st.vars) (y9 st.loc st.vars f) (args.map (y9 st.loc st.vars)) st.heap r ws∧E9 FN xs ⟨st.loc++[r],I8 st.vars x.var r,p8 st.heap ws⟩ Q
   | .cally f args=>FN.fy (y9 st.loc st.vars f) (args.map (y9 st.loc st.vars)) st.vars st.heap fun r vs h=>h.length=st.heap.length∧E9 FN xs ⟨st.loc++[r],I8 vs x.var r,h⟩ Q
   |op=>match A9 (y9 st.loc st.vars) (l7 st.heap x.hide) op with
    |some (p,ws)=>E9 FN xs ⟨st.loc++[p],I8 st.vars x.var p,p8 st.heap ws⟩ Q
    |none=>False
abbrev J0:=O4→List PV→Heap→Prop
def a2w(K:List PV→Heap→Prop)(Q:J0):J0
 | .normal,vs,h=>K vs h
 |e,vs,h=>Q e vs h
def xin(id:Nat)(Q:J0):J0
 | .exit i,vs,h=>if i=id then Q .normal vs h else Q (.exit i) vs h
 |e,vs,h=>Q e vs h
def a3i(body:J0→List PV→Heap→Prop)(Q:J0):Nat→List PV→Heap→Prop
 |0,_,_=>False
 |n+1,vs,h=>body (a2w (a3i body Q n) Q) vs h
def b4Y:N3→Nat
 | .alloc .. | .box .. | .mkarr .. | .makeSlice .. | .append .. | .allocA .. | .boxA .. | .makeMap .. | .lookupT .. =>1
 | .call _ _ ks _=>(ks.filter (·.2 !=0)).length
 |_=>0
def I1:N3→List Nat
 | .alloc k _| .box k _| .mkarr k _ _ _| .makeSlice k _ _ _ _ _| .append k _ _ _ _ _| .allocA k _| .boxA k _| .makeMap k _| .lookupT k _ _ _ _ _=>[k]
 | .call _ _ ks _=>(ks.filter (·.2 !=0)).map (·.1)
 |_=>[]
def a1Q(n:Nat)(xs:List l5):Bool:=xs.all fun x=>(I1 x.op).all fun k=>Nat.blt k n&&!x.hide.contains k
def a9h(ks:List Nat)(k:Nat):List Nat:=if ks.contains k then ks else ks++[k]
def c0V(ks:List Nat):PV→List Nat
 | .own k _ _ _ _ _=>a9h ks k
 | .ptr k _ _=>a9h ks k
 | .eptr k _ _ _ _ _=>a9h ks k
 | .mapv k _=>a9h ks k
 |_=>ks
def b2M(ks:List Nat)(cs:List PV):List Nat:=cs.foldl c0V ks
def b2p(vs:List PV)(live:List Nat):List Nat:=live.foldl (fun ks v=>b2M ks (l6 (vs.getD v .uu))) []
def c1d(h:Heap)(a:List Nat)(k:Nat):List Nat:=match(h.getD k (0,.dead)).2 with
 | .var cs=>b2M a cs
 |_=>a
def sKs(live:List Nat)(vs:List PV)(h:Heap):List Nat:=(b2p vs live).foldl (c1d h) (b2p vs live)
def ren(ks:List Nat)(c0:Nat)(h:Heap):PV→PV
 | .own k g a s o l=>match ks.idxOf? k with
  |some i=>.own (c0+i) (if(h.getD k (0,.dead)).1=g then 1 else 0) a s o l
  |none=>.uu
 | .ptr k g o=>match ks.idxOf? k with
  |some i=>.ptr (c0+i) (if(h.getD k (0,.dead)).1=g then 1 else 0) o
  |none=>.uu
 | .eptr k g a s i j=>match ks.idxOf? k with
  |some n=>.eptr (c0+n) (if(h.getD k (0,.dead)).1=g then 1 else 0) a s i j
  |none=>.uu
 | .bool b=>.bool b
 | .int k n=>.int k n
 | .str s=>.str s
 | .lit v=>.lit v
 | .nils=>.nils
 | .slc es=>.slc es
 | .mapv k g=>match ks.idxOf? k with
  |some i=>.mapv (c0+i) (if(h.getD k (0,.dead)).1=g then 1 else 0)
  |none=>.uu
 | .M6 us vs=>.M6 us vs
 | .fptr cs=>.fptr cs
 |_=>.uu
def a8s(ks:List Nat)(c0:Nat)(h:Heap):PV→PV
 | .agg cs=>.agg (cs.map (ren ks c0 h))
 |c=>ren ks c0 h c
def a0r(ks:List Nat)(c0:Nat)(h:Heap):Ob→Ob
 | .var cs=>if(cs.map (ren ks c0 h)).all one then .var (cs.map (ren ks c0 h))else .dead
 | .arr sz _ fr es=>if es.all D9 then .arr sz 0 fr es else .dead
 | .mp fr us vs=>if vs.all mvS then .mp fr us vs else .dead
 | .dead=>.dead
def b0d(ks:List Nat)(c0:Nat)(h:Heap)(p:Nat):Row:=if p<c0 then(0,.dead)else match ks[p-c0]? with
 |some k=>(1,a0r ks c0 h (h.getD k (0,.dead)).2)
 |none=>(0,.dead)
def a6k(f:Nat→Row):Nat→Nat→Heap
 |0,_=>[]
 |n+1,p=>f p::a6k f n (p+1)
def a3H(ks:List Nat)(c0:Nat)(h:Heap):Heap:=a6k (b0d ks c0 h) h.length 0
def sVs(live ks:List Nat)(c0:Nat)(h:Heap):Nat→List PV→List PV
 |_,[]=>[]
 |i,v::vs=>(if live.contains i then a8s ks c0 h v else .uu)::sVs live ks c0 h (i+1) vs
def sOk(ks:List Nat)(c0:Nat)(h:Heap):Bool:=a2u ks&&Nat.ble (c0+ks.length) h.length
def settled(live:List Nat)(c0:Nat)(vs:List PV)(h:Heap)(K:List PV→Heap→Prop):Prop:=
 sOk (sKs live vs h) c0 h=true∧K (sVs live (sKs live vs h) c0 h 0 vs) (a3H (sKs live vs h) c0 h)
def Z7(h:Heap):PV→PV
 | .own k g a s o l=>match h.getD k (0,.dead)with
  |(b,.arr s' _ fr es)=>if b=g∧es.length=a∧s'=s∧o=0∧l=a∧fr=true∧es.all D9=true then .slc (es.map B6)else .own k g a s o l
  |_=>.own k g a s o l
 | .osl k g a s o l=>match h.getD k (0,.dead)with
  |(b,.arr s' _ fr es)=>if b=g∧es.length=a∧s'=s∧o+l≤a∧fr=true∧es.all D9=true then .slc (((es.drop o).take l).map B6)else .osl k g a s o l
  |_=>.osl k g a s o l
 | .mapv k g=>match h.getD k (0,.dead)with
  |(b,.mp fr ks vs)=>if b=g∧fr=true∧vs.all (fun c=>A7 c||fn0 c)=true then .M6 ks vs else .mapv k g
  |_=>.mapv k g
 |c=>c
def a4r(h:Heap):PV→PV
 | .agg cs=>.agg (cs.map (Z7 h))
 |c=>Z7 h c
def a0w(h:Heap)(r:Bool):Ob→Ob
 | .arr sz ver fr es=>if es.all D9 then .arr sz (ver+1) (fr||r) (es.map B6)else if fr=false then .arr sz ver false (es.map (a4r h))else .arr sz ver fr es
 | .var cs=>.var (cs.map (Z7 h))
 | .mp fr us vs=>if vs.all mvS then .mp (fr||r) us (vs.map K5)else .mp fr us vs
 | .dead=>.dead
def a5W:List (Nat×Bool)→Heap→Heap
 | [],h=>h
 |x::l,h=>a5W l (h.set x.1 ((h.getD x.1 (0,.dead)).1,a0w h x.2 (h.getD x.1 (0,.dead)).2))
def a8M(b a i j:Nat)(h:Heap):Heap:=match h[b]?,h[a]? with
 |some (g,.arr s ver fr es),some (g3,.dead)=>if fr=false∧b≠a then(match es[i]? with
  |some e=>(match(l6 e)[j]? with
   |some (.uslc ns)=>if 0<ns.length∧a3w (l6 (ns.headD .uu)).length ns=true then
    (h.set b (g,.arr s (ver+2) false (es.set i (M4 e j [.own a (g3+1) ns.length (l6 (ns.headD .uu)).length 0 ns.length])))).set a (g3+1,.arr (l6 (ns.headD .uu)).length 0 false ns)else h
   |_=>h)
  |none=>h)else h
 |_,_=>h
def a8A(b a i j:Nat)(h:Heap):Heap:=match h[b]?,h[a]? with
 |some (g,.arr s ver fr es),some (g3,.arr d _ _ ns)=>if fr=false∧b≠a∧ns.all D9=true then(match es[i]? with
  |some e=>(match(l6 e)[j]? with
   |some (.own k f c s' o l)=>if k=a∧f=g3∧c=ns.length∧s'=d∧o=0∧l=c then
    (h.set b (g,.arr s (ver+1) false (es.set i (M4 e j [.slc (ns.map B6)])))).set a (g3,.dead)else h
   |_=>h)
  |none=>h)else h
 |_,_=>h
def ghI(c:Option Nat)(x:PV)(h:Heap):Option Nat:=match(match c,x with
 |none,x=>x
 |some f,.agg cs=>cs.getD f .uu
 |some f,.ptr k _ _=>match h[k]? with
  |some (_,.var cs)=>cs.getD f .uu
  |_=>.uu
 |_,_=>.uu)with
 | .int _ n=>some n.toNat
 |_=>none
def b1Y(h:Heap)(x:PV):Option (PV×Heap):=match x with
 | .ptr k g 0=>match h[k]? with
  |some (a,.var cs)=>if a=g∧(cs.map fun c=>a1M (Z7 h c)).all A7=true then some (.fptr (cs.map fun c=>a1M (Z7 h c)),h.set k (g,.dead))else none
  |_=>none
 | .nils=>some (.slc [],h)
 |_=>none
def a3j(v:Nat)(c:Option Nat)(k sz:Nat)(vs:List PV)(h:Heap):List PV×Heap:=
 if sz=0 then(match k with
  |0=>(vs.set v (Z7 h (vs.getD v .uu)),h)
  |1=>(match b1Y h (vs.getD v .uu)with
   |some (p,h')=>(vs.set v p,h')
   |none=>(vs,h))
  |k+2=>(match ghI c (vs.getD v .uu) h with
   |some i=>(vs,if k%2=0 then a8M (k/2%1000) (k/2000%1000) i (k/2000000) h else a8A (k/2%1000) (k/2000%1000) i (k/2000000) h)
   |none=>(vs,h)))else match h[k]? with
 |some (g,.dead)=>if 0<sz then(match c,vs.getD v .uu with
  |none,.nils=>(vs.set v (.own k (g+1) 0 sz 0 0),h.set k (g+1,.arr sz 0 false []))
  |some j,.ptr a g2 0=>match h[a]? with
   |some (g3,.var cs)=>if g3=g2 then(match cs[j]? with
    |some .nils=>(vs,(h.set k (g+1,.arr sz 0 false [])).set a (g3,.var (cs.set j (.own k (g+1) 0 sz 0 0))))
    |_=>(vs,h))else(vs,h)
   |_=>(vs,h)
  |_,_=>(vs,h))else(vs,h)
 |_=>(vs,h)
def I0:C6→C6
 | .seq a b=>.seq (I0 a) (I0 b)
 | .cond c a b=>.cond c (I0 a) (I0 b)
 | .block id b=>.block id (I0 b)
 | .loop b=>.loop (I0 b)
 | .loopS l c b=>.loopS l c (I0 b)
 | .G6 _ b=>I0 b
 | .rfor g ps a b=>.rfor g ps (I0 a) (I0 b)
 |c=>c
def strip:C6→C6
 | .seq a b=>.seq (strip a) (strip b)
 | .cond c a b=>.cond c (strip a) (strip b)
 | .block id b=>.block id (strip b)
 | .loop b=>.loop (strip b)
 | .loopS _ _ b=>.loop (strip b)
 | .G6 _ b=>strip b
 | .G4 _ _ _ _ b=>strip b
 | .rfor g ps a b=>.rfor g ps (I0 a) (I0 b)
 |c=>c
def a6G:List PV→List (Option Nat)→List PV→List PV
 |vs,p::ps,v::l=>a6G (I8 vs p v) ps l
 |vs,_,_=>vs
def a9k:O4→Option O4
 | .normal=>none
 |e=>some e
def unp:Option O4→O4
 |none=>.normal
 |some e=>e
def a9l(K:List PV→Heap→Prop):J0
 | .normal,vs,h=>K vs h
 |_,_,_=>False
def F8(FN:N0):C6→J0→List PV→Heap→Prop
 | .skip,Q,vs,h=>Q .normal vs h
 | .reg xs,Q,vs,h=>a1Q h.length xs=true∧E9 FN xs ⟨[],vs,h⟩ (fun st=>Q .normal st.vars st.heap)
 | .seq a b,Q,vs,h=>F8 FN a (a2w (F8 FN b Q) Q) vs h
 | .cond c a b,Q,vs,h=>match y9 [] vs c with
  | .bool true=>F8 FN a Q vs h
  | .bool false=>F8 FN b Q vs h
  |_=>False
 | .block id b,Q,vs,h=>F8 FN b (xin id Q) vs h
 | .loop b,Q,vs,h=>∃n,a3i (F8 FN b) Q n vs h
 | .loopS live c0 b,Q,vs,h=>∃n,a3i (fun Q vs h=>settled live c0 vs h (F8 FN b Q)) Q n vs h
 | .G6 l b,Q,vs,h=>F8 FN b Q vs (a5W l h)
 | .G4 v c k sz b,Q,vs,h=>F8 FN b Q (a3j v c k sz vs h).1 (a3j v c k sz vs h).2
 | .rfor g ps a b,Q,vs,h=>FN.it (y9 [] vs g) (fun args h1 k=>args.length=ps.length∧F8 FN a (a9l fun vs d=>F8 FN b (fun e _ f=>k (a9k e) f) vs d) (a6G vs ps args) h1) h fun p h'=>Q (unp p) vs h'
 | .exit id,Q,vs,h=>Q (.exit id) vs h
 | .ret,Q,vs,h=>Q .ret vs h
def rvC(lk:D8):PV→PV
 | .own k g a s o l=>match lk k with
  |(d,.arr s' _ fr es)=>if d=g∧es.length=a∧s'=s∧o=0∧l≤a∧es.all D9=true then(if l=a then(if fr then .slc (es.map B6)else .uslc es)else if fr then .uu else .uslc (es.take l))else .uu
  |_=>.uu
 | .ne=>.slc []
 | .nils=>.nils
 | .bool b=>.bool b
 | .int k n=>.int k n
 | .str t=>.str t
 | .lit v=>.lit v
 | .slc es=>.slc es
 | .mapv k g=>match lk k with
  |(d,.mp true ks vs)=>if d=g∧vs.all (fun c=>A7 c||fn0 c)=true then .M6 ks vs else .uu
  |_=>.uu
 | .M6 ks vs=>.M6 ks vs
 | .fptr cs=>.fptr cs
 |_=>.uu
def rvE(lk:D8):PV→PV
 | .agg cs=>.agg (cs.map (rvC lk))
 |c=>rvC lk c
def rvV(lk:D8):PV→PV
 | .tup vs=>.tup (vs.map (rvE lk))
 |c=>rvE lk c
def a7l(p:PV):List Nat:=((U2 p).flatMap l6).filterMap fun c=>match c with
 | .own k _ _ _ _ _=>some k
 |_=>none
def a3p(szs:List Nat):Nat→List PV→Bool
 |_,[]=>true
 |q,.own _ _ _ s _ _::cs=>szs.getD q 0==s&&a3p szs (q+1) cs
 |q,_::cs=>a3p szs (q+1) cs
def a9d(lk:D8)(vars:List PV):Nat×Option (Bool×Nat)→Option PV
 |(k,none)=>some (vars.getD k .uu)
 |(k,some (g,s))=>if g then a6J lk s (vars.getD k .uu)else a0o lk g s (vars.getD k .uu)
def a2m(lk:D8)(vars:List PV):List (Nat×Option (Bool×Nat))→Option (List PV)
 | []=>some []
 |r::rs=>match a9d lk vars r,a2m lk vars rs with
  |some v,some vs=>some (v::vs)
  |_,_=>none
def U7:List PV→PV
 | [v]=>v
 |vs=>.tup vs
def b2j(rs:List (Nat×Option (Bool×Nat)))(szs:List Nat)(r:PV):J0:=fun e vs h=>
 (match e with| .exit _=>False|_=>True)∧∃l,a2m (l7 h []) vs rs=some l∧a2u (a7l (U7 l))=true∧a3p szs 0 ((U2 (U7 l)).flatMap l6)=true∧rvV (l7 h []) (U7 l)=r
open Go.RowKit
def isD:Obj→Bool
 | .cells .. | .map .. =>true
 |_=>false
structure Bl(B:Nat)(w w':World):Prop where
 bl:Below B w w'
 same:∀(k:Nat) (o:Obj),w.heap[k]?=some o→isD o=false→w'.heap[k]?=some o
section
variable{B:Nat}{a b c w w':World}
theorem Bl.refl(B:Nat)(w:World):Bl B w w:=⟨Below.refl _ _,fun _ _ h _=>h⟩
theorem Bl.trans(h:Bl B a b)(k:Bl B b c):Bl B a c:=⟨h.bl.trans k.bl,fun i o h1 d=>k.same i o (h.same i o h1 d) d⟩
theorem Bl.mono{B':Nat}(h:Bl B a b)(c:B'≤B):Bl B' a b:=⟨h.bl.mono c,h.same⟩
theorem Bl.size(h:Bl B a b):a.heap.size≤b.heap.size:=h.bl.size
theorem Bl.block(h:Bl B a b):∀k,k<B→b.heap[k]?=a.heap[k]?:=h.bl.block
theorem Bl.drew(h:Bl B a w):Bl B a w.drew:=h.trans ⟨(Below.refl B w).drew,fun _ _ h _=>h⟩
theorem Bl.alloc(h:Bl B a w)(b:B≤w.heap.size)(o:Obj):Bl B a (w.alloc o):=
 h.trans ⟨(Below.refl B w).alloc b o,fun k x h1 _=>(Below.heap_alloc _ _ _ (a1U.1 h1).1).trans h1⟩
end
def U8(w:World)(b:Nat):Prop:=∃o,w.heap[b]?=some o∧isD o=true
theorem U8.lt{w:World}{b:Nat}(h:U8 w b):b<w.heap.size:=by obtain⟨_,h,_⟩:=h;exact(a1U.1 h).1
theorem U8.eq{w w':World}{b:Nat}(h:U8 w b)(e:w'.heap[b]?=w.heap[b]?):U8 w' b:=by obtain⟨o,h,d⟩:=h;exact⟨o,e.trans h,d⟩
theorem U8.of{w:World}{b:Nat}{us:Array Value}{T:TypeId}{x:Nat×Nat}(h:w.heap[b]?=some (.cells us T x)):U8 w b:=⟨_,h,rfl⟩
abbrev Key:=Nat×Option (Nat×Nat)
abbrev root(k:Nat):Key:=(k,none)
abbrev nest(k i j:Nat):Key:=(k,some (i,j))
structure Gh where
 β:Key→Nat
 R:Key→Prop
 γ:Key→Nat
 σ:Key→Nat
 Z:Nat→Prop
def J4(R:Value→PV→Prop)(vs:Array Value)(cs:List PV):Prop:=vs.size=cs.length∧∀(i:Nat) c,cs[i]?=some c→∃u,vs[i]?=some u∧R u c
theorem J4.mono{R R':Value→PV→Prop}{vs:Array Value}{cs:List PV}(h:J4 R vs cs)(hr:∀v c,R v c→R' v c):J4 R' vs cs:=
 ⟨h.1,fun i c a=>let⟨u,h1,h2⟩:=h.2 i c a;⟨u,h1,hr _ _ h2⟩⟩
def b0m:Value→Bool
 | .pointer none| .nilFunc| .nilIface| .map none=>true
 |_=>false
def D:Nat:=6
def a0R:PV→Option Value
 | .bool b=>some (.bool b)
 | .int k n=>some (.int k n)
 | .str s=>some (.string s)
 |_=>none
def T9:List PV→Option (List Value)
 | []=>some []
 |c::cs=>match a0R c,T9 cs with
  |some v,some l=>some (v::l)
  |_,_=>none
def a1l:PV→Option Value
 | .agg cs=>(T9 cs).map fun l=>.agg l.toArray
 |c=>a0R c
def a1O(es:Array MapEntry)(ks:List PV):Prop:=es.size=ks.length∧∀(i:Nat) x,ks[i]?=some x→∃e,es[i]?=some e∧a1l x=some e.key
def J1(Z:Nat→Prop)(w:World):Nat→Value→PV→Prop
 |_,_,.uu=>True
 |_,v,.bool b=>v=.bool b
 |_,v,.int k n=>v=.int k n
 |_,v,.str s=>v=.string s
 |_,v,.lit u=>v=u∧b0m u=true
 |n+1,v,.slc es=>∃a c sz,v=.slice a es.length c∧es.length≤c∧c≤maxLen∧(a=none→c=0)∧
  ∀(i:Nat) e,es[i]?=some e→(l6 e).length=sz∧∃b o,a=some ⟨b,o,none⟩∧Z b∧∀(j:Nat) c,(l6 e)[j]?=some c→one c=true∧∃u,w.cell? ⟨b,o+(i*sz+j),none⟩=some u∧J1 Z w n u c
 |n+1,v,.agg cs=>∃vs,v=.agg vs∧J4 (J1 Z w n) vs cs
 |_,v,.fn f [] []=>v=.func f #[] #[]
 |n+1,v,.M6 ks cs=>∃b es q,v=.map (some b)∧Z b∧w.heap[b]?=some (.map es q)∧a1O es ks∧ks.length=cs.length∧∀(i:Nat) c,cs[i]?=some c→∃e,es[i]?=some e∧J1 Z w n e.val c
 |n+1,v,.fptr cs=>∃b o,v=.pointer (some ⟨b,o,none⟩)∧Z b∧∀(j:Nat) c,cs[j]?=some c→one c=true∧∃u,w.cell? ⟨b,o+j,none⟩=some u∧J1 Z w n u c
 |_,_,_=>False
theorem J1.mono{Z Z':Nat→Prop}{w w':World}(t:∀b,Z b→Z' b)(hw:∀b,Z b→w'.heap[b]?=w.heap[b]?):∀{n:Nat} {v:Value} {p:PV},J1 Z w n v p→J1 Z' w' n v p:=by
 intro n
 induction n with
 |zero=>
  intro v p h;cases p
  case fn f a c=>cases a<;>cases c<;>exact h
  all_goals first|exact h|exact(show False from h).elim
 |succ n r=>
  intro v p h;cases p
  case fn f a c=>cases a<;>cases c<;>exact h
  case M6 ks cs=>
   obtain⟨b,es,q,h1,d,g,k,l,y⟩:=h;exact⟨b,es,q,h1,t b d,by rw[hw b d];exact g,k,l,fun i c m=>by obtain⟨e,z,s⟩:=y i c m;exact⟨e,z,r s⟩⟩
  case fptr cs=>
   obtain⟨b,o,h1,d,g⟩:=h;refine⟨b,o,h1,t b d,fun j c m=>?_⟩;obtain⟨h0,u,k,l⟩:=g j c m;exact⟨h0,u,by rw[World.cell?_of_block (w:=w) (a:=⟨b,_,none⟩) (hw b d)];exact k,r l⟩
  all_goals first|exact h|skip
  case slc es=>
   obtain⟨a,c,sz,h1,d,g,k,l⟩:=h;refine⟨a,c,sz,h1,d,g,k,fun i e he=>?_⟩;obtain⟨y,b,o,z,s,A⟩:=l i e he;refine⟨y,b,o,z,t b s,fun j c m=>?_⟩;obtain⟨h0,u,B,C⟩:=A j c m;exact⟨h0,u,by rw[World.cell?_of_block (w:=w) (a:=⟨b,_,none⟩) (hw b s)];exact B,r C⟩
  case agg cs=>
   obtain⟨vs,h1,d⟩:=h;exact⟨vs,h1,d.mono fun _ _ x=>r x⟩
theorem J1.up{Z:Nat→Prop}{w:World}:∀{n:Nat} {v:Value} {p:PV},J1 Z w n v p→J1 Z w (n+1) v p:=by
 intro n
 induction n with
 |zero=>
  intro v p h;cases p
  case fn f a c=>cases a<;>cases c<;>exact h
  all_goals first|exact h|exact(show False from h).elim
 |succ n r=>
  intro v p h;cases p
  case fn f a c=>cases a<;>cases c<;>exact h
  case M6 ks cs=>
   obtain⟨b,es,q,h1,d,g,k,l,s⟩:=h;exact⟨b,es,q,h1,d,g,k,l,fun i c m=>by obtain⟨e,t,y⟩:=s i c m;exact⟨e,t,r y⟩⟩
  case fptr cs=>
   obtain⟨b,o,h1,d,g⟩:=h;exact⟨b,o,h1,d,fun j c m=>by obtain⟨h0,u,k,l⟩:=g j c m;exact⟨h0,u,k,r l⟩⟩
  all_goals first|exact h|skip
  case slc es=>
   obtain⟨a,c,sz,h1,d,g,k,l⟩:=h;refine⟨a,c,sz,h1,d,g,k,fun i e he=>?_⟩;obtain⟨s,b,o,t,y,z⟩:=l i e he;refine⟨s,b,o,t,y,fun j c m=>?_⟩;obtain⟨h0,u,A,B⟩:=z j c m;exact⟨h0,u,A,r B⟩
  case agg cs=>
   obtain⟨vs,h1,d⟩:=h;exact⟨vs,h1,d.mono fun _ _ x=>r x⟩
theorem J1.le{Z:Nat→Prop}{w:World}{n m:Nat}{v:Value}{p:PV}(h:n≤m)(hp:J1 Z w n v p):J1 Z w m v p:=by
 induction h with
 |refl=>exact hp
 |step _ a=>exact a.up
def PR(Z:Nat→Prop)(w:World)(v:Value)(p:PV):Prop:=∃n,J1 Z w n v p
theorem PR.mono{Z Z':Nat→Prop}{w w':World}(a:∀b,Z b→Z' b)(hw:∀b,Z b→w'.heap[b]?=w.heap[b]?){v:Value}{p:PV}(h:PR Z w v p):PR Z' w' v p:=
 let⟨n,hn⟩:=h;⟨n,hn.mono a hw⟩
theorem a8k{Q:Nat→Nat→Prop}(a:∀i n m,n≤m→Q i n→Q i m):∀(k:Nat),(∀i,i<k→∃n,Q i n)→∃N,∀i,i<k→Q i N
 |0,_=>⟨0,fun i hi=>j4⟩
 |k+1,h=>by
  obtain⟨N,b⟩:=a8k a k fun i hi=>h i j4;obtain⟨n,c⟩:=h k j4;refine⟨max N n,fun i hi=>?_⟩;by_cases d:i<k
  . grind
  . grind
theorem PR.U1{Z:Nat→Prop}{w:World}{v:Value}{es:List PV}:PR Z w v (.slc es)↔∃a c sz,v=.slice a es.length c∧es.length≤c∧c≤maxLen∧(a=none→c=0)∧
      ∀(i:Nat) e,es[i]?=some e→(l6 e).length=sz∧∃b o,a=some ⟨b,o,none⟩∧Z b∧∀(j:Nat) c,(l6 e)[j]?=some c→one c=true∧∃u,w.cell? ⟨b,o+(i*sz+j),none⟩=some u∧PR Z w u c:=by
 constructor
 . rintro⟨n,hp⟩;cases n with
   |zero=>unfold J1 at hp;exact hp.elim
   |succ n=>
    unfold J1 at hp;obtain⟨a,c,sz,h1,q,r,s,h⟩:=hp;refine⟨a,c,sz,h1,q,r,s,fun i e he=>?_⟩;obtain⟨k,b,o,f,l,g⟩:=h i e he;refine⟨k,b,o,f,l,fun j c d=>?_⟩;obtain⟨A,u,B,C⟩:=g j c d;exact⟨A,u,B,n,C⟩
 . rintro⟨a,c,sz,h1,q,r,s,h⟩;have D:∃N,∀i,i<es.length→∀e,es[i]?=some e→∀(j:Nat) c,(l6 e)[j]?=some c→∀b o,a=some ⟨b,o,none⟩→∃u,w.cell? ⟨b,o+(i*sz+j),none⟩=some u∧J1 Z w N u c:=by
    refine a8k (Q:=fun i N=>∀e,es[i]?=some e→∀(j:Nat) c,(l6 e)[j]?=some c→∀b o,a=some ⟨b,o,none⟩→∃u,w.cell? ⟨b,o+(i*sz+j),none⟩=some u∧J1 Z w N u c) ?_ _ ?_
    . intro i n m t x e he j c d b o p;obtain⟨u,g1,g2⟩:=x e he j c d b o p;exact⟨u,g1,g2.le t⟩
    . intro i hi;obtain⟨e,he⟩:∃e,es[i]?=some e:=⟨es[i],l9 hi⟩
      obtain⟨k,b,o,f,l,g⟩:=h i e he;obtain⟨N,y⟩:=a8k (Q:=fun j N=>∀c,(l6 e)[j]?=some c→∃u,w.cell? ⟨b,o+(i*sz+j),none⟩=some u∧J1 Z w N u c) (fun j n m t x c d=>by
       obtain⟨u,g1,g2⟩:=x c d;exact⟨u,g1,g2.le t⟩) (l6 e).length (fun j hj=>by
       obtain⟨g0,u,g1,n,g2⟩:=g j _ (l9 hj);exact⟨n,fun c d=>by rw[l9 hj]at d;cases d;exact⟨u,g1,g2⟩⟩)
      refine⟨N,fun E z j c d b' o' p=>?_⟩;rw[he]at z;cases z;rw[f]at p;cases p;exact y j (C0.1 d).1 c d
   obtain⟨N,y⟩:=D;refine⟨N+1,?_⟩;unfold J1;refine⟨a,c,sz,h1,q,r,s,fun i e he=>?_⟩;obtain⟨k,b,o,f,l,g⟩:=h i e he;refine⟨k,b,o,f,l,fun j c d=>⟨(g j c d).1,y i (C0.1 he).1 e he j c d b o f⟩⟩
theorem PR.M6{Z:Nat→Prop}{w:World}{v:Value}{ks cs:List PV}(h:PR Z w v (.M6 ks cs)):∃b es q,v=.map (some b)∧Z b∧w.heap[b]?=some (.map es q)∧a1O es ks∧ks.length=cs.length∧∀(i:Nat) c,cs[i]?=some c→∃e,es[i]?=some e∧PR Z w e.val c:=by
 obtain⟨n,hp⟩:=h;cases n with
 |zero=>unfold J1 at hp;exact hp.elim
 |succ n=>
  unfold J1 at hp;obtain⟨b,es,q,h1,a,d,f,g,j⟩:=hp;exact⟨b,es,q,h1,a,d,f,g,fun i c k=>by obtain⟨e,l,m⟩:=j i c k;exact⟨e,l,n,m⟩⟩
theorem PR.a3f{Z:Nat→Prop}{w:World}{v:Value}{cs:List PV}:PR Z w v (.fptr cs)↔∃b o,v=.pointer (some ⟨b,o,none⟩)∧Z b∧∀(j:Nat) c,cs[j]?=some c→one c=true∧∃u,w.cell? ⟨b,o+j,none⟩=some u∧PR Z w u c:=by
 constructor
 . rintro⟨n,hp⟩;cases n with
   |zero=>unfold J1 at hp;exact hp.elim
   |succ n=>
    unfold J1 at hp;obtain⟨b,o,h1,e,d⟩:=hp;exact⟨b,o,h1,e,fun j c a=>by obtain⟨h0,u,f,g⟩:=d j c a;exact⟨h0,u,f,n,g⟩⟩
 . rintro⟨b,o,h1,e,d⟩;obtain⟨N,k⟩:=a8k (Q:=fun j N=>∀c,cs[j]?=some c→∃u,w.cell? ⟨b,o+j,none⟩=some u∧J1 Z w N u c) (fun j n m h i c a=>by
    obtain⟨u,g1,g2⟩:=i c a;exact⟨u,g1,g2.le h⟩) cs.length (fun j hj=>by
    obtain⟨g0,u,g1,n,g2⟩:=d j _ (l9 hj);exact⟨n,fun c a=>by rw[l9 hj]at a;cases a;exact⟨u,g1,g2⟩⟩)
   refine⟨N+1,?_⟩;unfold J1
   grind
def cellAt(es:List PV)(i j:Nat):Option PV:=(es[i]?).bind fun e=>(l6 e)[j]?
def j9(G:Gh)(h:Heap)(w:World):Nat→Value→PV→Prop
 |_,v,.any=>v.oneCell'=true∧v.cells= #[v]
 |_,_,.uu=>True
 |_,v,.bool b=>v=.bool b
 |_,v,.int k n=>v=.int k n
 |_,v,.str s=>v=.string s
 |_,v,.lit u=>v=u∧b0m u=true
 |_,v,.nils=>v=.slice none 0 0
 |_,v,.ne=>∃b o,v=.slice (some ⟨b,o,none⟩) 0 0
 |_,v,.slc es=>PR G.Z w v (.slc es)
 |_,v,.M6 ks vs=>PR G.Z w v (.M6 ks vs)
 |_,v,.mapv k g=>∃b,v=.map (some b)∧∃gn ob,h[k]?=some (gn,ob)∧g≤gn∧(gn=g→∀fr ks vs,ob=.mp fr ks vs→b=G.β (root k))
 |_,v,.own k g d s o l=>∃a c,v=.slice a l c∧l≤c∧c≤maxLen∧((a=none∧c=0)∨∃b f,a=some ⟨b,f,none⟩)∧∃gn ob,h[k]?=some (gn,ob)∧g≤gn∧
  (gn=g→∀sz ver fr es,ob=.arr sz ver fr es→d≤es.length∧(es.length=d→o+l≤d∧
   (G.R (root k)→∃f,a=some ⟨G.β (root k),f,none⟩∧(c=0∨(sz=s→f=o*s))∧d≤o+c∧o+c≤G.γ (root k))∧(¬G.R (root k)→a=none∧o=0)))
 |_,v,.osl k g d s o l=>∃a c,v=.slice a l c∧l≤c∧c≤maxLen∧((a=none∧c=0)∨∃b f,a=some ⟨b,f,none⟩)∧∃gn ob,h[k]?=some (gn,ob)∧g≤gn∧
  (gn=g→∀sz ver fr es,ob=.arr sz ver fr es→d≤es.length∧(es.length=d→o+l≤d∧
   (G.R (root k)→∃f,a=some ⟨G.β (root k),f,none⟩∧(c=0∨(sz=s→f=o*s)))∧(¬G.R (root k)→a=none)))
 |_,v,.nown k g ver i j o l=>∃a c,v=.slice a l c∧l≤c∧c≤maxLen∧((a=none∧c=0)∨∃b f,a=some ⟨b,f,none⟩)∧∃gn ob,h[k]?=some (gn,ob)∧g≤gn∧
  (gn=g→∀sz vr fr es,ob=.arr sz vr fr es→ver≤vr∧(vr=ver→∃ns,cellAt es i j=some (.uslc ns)∧o+l≤ns.length∧
   (G.R (nest k i j)→∃f,a=some ⟨G.β (nest k i j),f,none⟩∧(c=0∨f=o*G.σ (nest k i j)))∧(¬G.R (nest k i j)→a=none∧o=0)))
 |_,v,.ptr k g o=>∃b,v=.pointer (some ⟨b,o,none⟩)∧∃gn ob,h[k]?=some (gn,ob)∧g≤gn∧(gn=g→∀cs,ob=.var cs→b=G.β (root k))
 |_,v,.vsl k g o s l=>∃b f c,v=.slice (some ⟨b,f,none⟩) l c∧l≤c∧c≤maxLen∧(l=0∨f=o)∧∃gn ob,h[k]?=some (gn,ob)∧g≤gn∧(gn=g→∀cs,ob=.var cs→b=G.β (root k))
 |_,v,.eptr k g d s i j=>∃b f,v=.pointer (some ⟨b,f,none⟩)∧∃gn ob,h[k]?=some (gn,ob)∧g≤gn∧
  (gn=g→∀sz ver fr es,ob=.arr sz ver fr es→d≤es.length∧(es.length=d→b=G.β (root k)∧(sz=s→f=i*s+j)∧i<d))
 |_,v,.nptr k g ver s i j m l=>∃b f,v=.pointer (some ⟨b,f,none⟩)∧∃gn ob,h[k]?=some (gn,ob)∧g≤gn∧
  (gn=g→∀sz vr fr es,ob=.arr sz vr fr es→ver≤vr∧(vr=ver→∃ns,cellAt es i j=some (.uslc ns)∧b=G.β (nest k i j)∧(G.σ (nest k i j)=s→f=m*s+l)∧m<ns.length))
 |_,v,.fptr cs=>PR G.Z w v (.fptr cs)
 |n+1,v,.agg cs=>∃vs,v=.agg vs∧J4 (j9 G h w n) vs cs
 |n+1,v,.tup cs=>∃vs,v=.tuple vs∧J4 (j9 G h w n) vs cs
 |n+1,v,.fn f first cap=>∃vs us,v=.func f vs us∧J4 (j9 G h w n) vs first∧J4 (j9 G h w n) us cap
 |_,_,_=>False
def O2(G:Gh)(w:World)(key:Key)(u:Value)(ns:List PV):Prop:=
 (G.R key→∃us T f c,u=.slice (some ⟨G.β key,f,none⟩) ns.length c∧(c=0∨f=0)∧ns.length≤c∧c≤G.γ key∧G.γ key≤maxLen∧w.heap[G.β key]?=some (.cells us T (0,0))∧us.size=G.γ key*G.σ key∧0<G.σ key∧
  ∀(i:Nat) e,ns[i]?=some e→(l6 e).length=G.σ key∧∀(j:Nat) c,(l6 e)[j]?=some c→one c=true∧∃v,us[i*G.σ key+j]?=some v∧PR G.Z w v c)∧
 (¬G.R key→u=.slice none 0 0∧ns=[])
def G9(G:Gh)(h:Heap)(w:World)(k i j:Nat)(u:Value):PV→Prop
 | .uslc ns=>O2 G w (nest k i j) u ns
 |c=>one c=true∧j9 G h w D u c
def a0c(G:Gh)(h:Heap)(w:World)(k i:Nat)(u:Value):PV→Prop
 | .uslc ns=>O2 G w (nest k i 0) u ns
 |c=>j9 G h w D u c
def F7(G:Gh)(h:Heap)(w:World)(k:Nat):Ob→Prop
 | .dead=>True
 | .var cs=>G.R (root k)∧∃us T,w.heap[G.β (root k)]?=some (.cells us T (0,0))∧J4 (fun v c=>one c=true∧j9 G h w D v c) us cs
 | .arr sz _ _ es=>0<sz∧es.length≤G.γ (root k)∧G.γ (root k)≤maxLen∧
  (G.R (root k)→∃us T,w.heap[G.β (root k)]?=some (.cells us T (0,0))∧us.size=G.γ (root k)*sz∧
   ∀(i:Nat) e,es[i]?=some e→(l6 e).length=sz∧∀(j:Nat) c,(l6 e)[j]?=some c→∃u,us[i*sz+j]?=some u∧G9 G h w k i j u c)∧
  (¬G.R (root k)→es=[])
 | .mp _ ks vs=>G.R (root k)∧ks.length=vs.length∧∃es q,w.heap[G.β (root k)]?=some (.map es q)∧a1O es ks∧∀(i:Nat) c,vs[i]?=some c→∃e,es[i]?=some e∧a0c G h w k i e.val c
def a7s:Ob→Bool
 | .var _=>true
 | .arr _ _ fr _=>!fr
 | .mp fr _ _=>!fr
 | .dead=>false
def b4J:Ob→Bool
 | .arr _ _ fr _=>fr
 | .mp fr _ _=>fr
 |_=>false
structure s6(B:Nat)(Z0:Nat→Prop)(G:Gh)(h:Heap)(w:World):Prop where
 base:B≤w.heap.size
 zo:∀b,G.Z b→Z0 b∨B≤b
 zb:∀b,G.Z b→U8 w b
 lv:∀key,G.R key→B≤G.β key∧U8 w (G.β key)
 nz:∀k g o,h[k]?=some (g,o)→a7s o=true→∀y,G.R (k,y)→¬G.Z (G.β (k,y))
 fz:∀k g o,h[k]?=some (g,o)→b4J o=true→∀y,G.R (k,y)→G.Z (G.β (k,y))
 inj:∀key key',G.R key→G.R key'→G.β key=G.β key'→key=key'
 ob:∀k g o,h[k]?=some (g,o)→F7 G h w k o
def C8(G G':Gh)(key:Key):Prop:=G'.β key=G.β key∧(G'.R key↔G.R key)∧G'.γ key=G.γ key∧G'.σ key=G.σ key
theorem C8.refl(G:Gh)(key:Key):C8 G G key:=⟨rfl,Iff.rfl,rfl,rfl⟩
def K7(G G':Gh)(k:Nat)(ob ob':Ob):Prop:=
 (∀sz ver' a es',ob'=.arr sz ver' a es'→∃ver fr es,ob=.arr sz ver fr es∧es.length≤es'.length∧ver≤ver'∧(es'.length=es.length→C8 G G' (root k))∧
  (ver'=ver→∀i j ns,cellAt es i j=some (.uslc ns)→∃b,cellAt es' i j=some (.uslc b)∧ns.length=b.length∧C8 G G' (nest k i j)))∧
 (∀c,ob'=.var c→∃cs,ob=.var cs∧C8 G G' (root k))∧
 (∀a ks' vs',ob'=.mp a ks' vs'→∃fr ks vs,ob=.mp fr ks vs∧C8 G G' (root k))
structure Ext(G:Gh)(h:Heap)(w:World)(G':Gh)(h':Heap)(w':World):Prop where
 zz:∀b,G.Z b→G'.Z b
 zw:∀b,G.Z b→w'.heap[b]?=w.heap[b]?
 kp:∀k gn ob,h[k]?=some (gn,ob)→∃gn' ob',h'[k]?=some (gn',ob')∧gn≤gn'∧(gn'=gn→K7 G G' k ob ob')
structure Y5(m:Nat)(w w':World):Prop where
 os:w'.os=w.os
 tape:w'.tape=w.tape
 output:w'.output=w.output
 size:w'.heap.size=w.heap.size
 cells:∀b,U8 w b→w'.heap[b]?=w.heap[b]?
 low:∀b,b<m→w'.heap[b]?=w.heap[b]?
theorem Y5.refl(m:Nat)(w:World):Y5 m w w:=⟨rfl,rfl,rfl,rfl,fun _ _=>rfl,fun _ _=>rfl⟩
theorem Y5.trans{m:Nat}{a b c:World}(h:Y5 m a b)(k:Y5 m b c):Y5 m a c:=
 ⟨k.os.trans h.os,k.tape.trans h.tape,k.output.trans h.output,k.size.trans h.size,fun b hb=>(k.cells b (hb.eq (h.cells b hb))).trans (h.cells b hb),fun b hb=>(k.low b hb).trans (h.low b hb)⟩
theorem Y5.put{m D:Nat}{w:World}{o o':Obj}(h:w.heap[D]?=some o)(c:isD o=false)(hm:m≤D):Y5 m w (w.putObj D o'):=
 ⟨rfl,rfl,rfl,k8,fun b hb=>b5p fun e=>(by subst e;obtain⟨x,a,hd⟩:=hb;rw[h]at a;cases a;rw[c]at hd;cases hd),fun b hb=>b5p j4⟩
structure M8(B:Nat)where
 m:Nat
 psi:PV→Gh→Heap→World→Prop
 ms:∀{g:PV} {G:Gh} {h:Heap} {w:World},psi g G h w→m≤w.heap.size
 step:∀{g:PV} {G:Gh} {h:Heap} {w:World} {G':Gh} {h':Heap} {w':World},psi g G h w→Ext G h w G' h' w'→Bl B w w'→psi g G' h' w'
 shut:∀{Z0:Nat→Prop} {g:PV} {G:Gh} {h:Heap} {w w':World},s6 B Z0 G h w→psi g G h w→Y5 m w w'→psi g G h w'
theorem Bl.shut{B:Nat}{w0 w w':World}(c:B≤w0.heap.size)(h:Bl B w0 w)(s:Y5 w0.heap.size w w'):Bl B w0 w':=
 ⟨⟨s.os.trans h.bl.os,s.tape.trans h.bl.tape,s.output.trans h.bl.output,by rw[s.size];exact h.size,fun k a=>(s.low k j4).trans (h.block k a)⟩,
  fun k o h1 b=>(s.low k (a1U.1 h1).1).trans (h.same k o h1 b)⟩
def M8.plain(w0:World):M8 w0.heap.size:=⟨w0.heap.size,fun _ _ _ w=>Bl w0.heap.size w0 w,fun h=>h.size,fun h _ b=>h.trans b,fun _ h s=>h.shut (p7 _) s⟩
def a0p(m:Nat)(a:List Deferred)(w:World):Prop:=∃Ds:List Nat,Ds.Nodup∧a=Ds.map (fun D=>{target:=.collected D,args:= #[]})∧∀D∈Ds,m≤D∧w.heap[D]?=some (.deferred (some []))
theorem a0p.nil{m:Nat}{w:World}:a0p m [] w:=⟨[],List.nodup_nil,rfl,fun D a=>by cases a⟩
theorem a0p.step{m B:Nat}{a:List Deferred}{w w':World}(h:a0p m a w)(b:Bl B w w'):a0p m a w':=by obtain⟨Ds,h1,e,c⟩:=h;exact⟨Ds,h1,e,fun D d=>⟨(c D d).1,b.same D _ (c D d).2 rfl⟩⟩
section
variable{B:Nat}{Z0:Nat→Prop}{G G' G'':Gh}{h h' h'':Heap}{w w' w'':World}
theorem C8.trans{key:Key}(a:C8 G G' key)(b:C8 G' G'' key):C8 G G'' key:=
 ⟨b.1.trans a.1,b.2.1.trans a.2.1,b.2.2.1.trans a.2.2.1,b.2.2.2.trans a.2.2.2⟩
theorem K7.refl(k:Nat)(ob:Ob)(hs:C8 G G' (root k))(a:∀i j,C8 G G' (nest k i j)):K7 G G' k ob ob:=
 ⟨fun sz ver fr es e=>⟨ver,fr,es,e,p7 _,p7 _,fun _=>hs,fun _ i j ns b=>⟨ns,b,rfl,a i j⟩⟩,fun cs e=>⟨cs,e,hs⟩,fun fr ks vs e=>⟨fr,ks,vs,e,hs⟩⟩
theorem K7.dead(k:Nat)(ob:Ob):K7 G G' k ob .dead:=⟨fun _ _ _ _ e=>by simp at e,fun _ e=>by simp at e,fun _ _ _ e=>by simp at e⟩
theorem K7.arr{k sz ver:Nat}{fr:Bool}{es:List PV}{ob:Ob}(h:∀b ver' d es',Ob.arr sz ver fr es=.arr b ver' d es'→∃v0 f0 a,ob=.arr b v0 f0 a∧a.length≤es'.length∧v0≤ver'∧(es'.length=a.length→C8 G G' (root k))∧
 (ver'=v0→∀i j ns,cellAt a i j=some (.uslc ns)→∃c,cellAt es' i j=some (.uslc c)∧ns.length=c.length∧C8 G G' (nest k i j))):K7 G G' k ob (.arr sz ver fr es):=⟨h,fun _ e=>by simp at e,fun _ _ _ e=>by simp at e⟩
theorem K7.var{k:Nat}{cs:List PV}{ob:Ob}(h:∃c0,ob=.var c0∧C8 G G' (root k)):K7 G G' k ob (.var cs):=⟨fun _ _ _ _ e=>by simp at e,fun _ _=>h,fun _ _ _ e=>by simp at e⟩
theorem Ext.refl:Ext G h w G h w:=⟨fun _ x=>x,fun _ _=>rfl,fun k gn ob e=>⟨gn,ob,e,p7 _,fun _=>K7.refl k ob (C8.refl _ _) fun _ _=>C8.refl _ _⟩⟩
theorem K7.trans{k:Nat}{a b c:Ob}(x:K7 G G' k a b)(y:K7 G' G'' k b c):K7 G G'' k a c:=by
 refine⟨fun sz ver fr es e=>?_,fun cs e=>?_,fun fr ks vs e=>?_⟩
 . obtain⟨l,m,n,d,l1,v1,s1,o⟩:=y.1 sz ver fr es e;obtain⟨p,q,r,f,A,v0,s0,s⟩:=x.1 sz l m n d;refine⟨p,q,r,f,j4,j4,fun B=>(s0 j4).trans (s1 j4),fun C i j ns t=>?_⟩;obtain⟨u,c1,D,g⟩:=s j4 i j ns t;obtain⟨v,c0,E,h⟩:=o j4 i j u c1;exact⟨v,c0,j4,g.trans h⟩
 . obtain⟨w,d,s1⟩:=y.2.1 cs e;obtain⟨z,f,s0⟩:=x.2.1 w d;exact⟨z,f,s0.trans s1⟩
 . obtain⟨f1,g,v1,d,s1⟩:=y.2.2 fr ks vs e;obtain⟨f0,h,v0,f,s0⟩:=x.2.2 f1 g v1 d;exact⟨f0,h,v0,f,s0.trans s1⟩
theorem Ext.trans(x:Ext G h w G' h' w')(y:Ext G' h' w' G'' h'' w''):Ext G h w G'' h'' w'':=by refine⟨fun b hb=>y.zz b (x.zz b hb),fun b hb=>(y.zw b (x.zz b hb)).trans (x.zw b hb),fun k gn ob e=>?_⟩;obtain⟨g1,a,c,l1,d⟩:=x.kp k gn ob e;obtain⟨g2,f,g,j,i⟩:=y.kp k g1 a c;exact⟨g2,f,g,j4,fun l=>(d j4).trans (i j4)⟩
theorem j9.ext(x:Ext G h w G' h' w'):∀{n:Nat} {v:Value} {p:PV},j9 G h w n v p→j9 G' h' w' n v p:=by
 have base:∀{n:Nat} {v:Value} {p:PV},(∀cs,p≠ .agg cs)→(∀cs,p≠ .tup cs)→(∀f a b,p≠ .fn f a b)→j9 G h w n v p→j9 G' h' w' n v p:=by
  intro n v p W X Y hp;cases p
  case slc=>unfold j9 at hp⊢;exact PR.mono x.zz x.zw hp
  case M6=>unfold j9 at hp⊢;exact PR.mono x.zz x.zw hp
  case mapv k g=>
   unfold j9 at hp⊢;obtain⟨b,q,gn,ob,h1,z,d⟩:=hp;obtain⟨gn',ob',r,H,t⟩:=x.kp k gn ob h1;refine⟨b,q,gn',ob',r,j4,fun e fr ks vs u=>?_⟩;obtain⟨f0,Z,v0,M,a1,_⟩:=(t j4).2.2 fr ks vs u;rw[a1];exact d j4 f0 Z v0 M
  case own k g V s o l=>
   unfold j9 at hp⊢;obtain⟨a,c,q,I,J,K,gn,ob,h1,z,d⟩:=hp;obtain⟨gn',ob',r,H,t⟩:=x.kp k gn ob h1;refine⟨a,c,q,I,J,K,gn',ob',r,j4,fun e sz ver fr es u=>?_⟩;obtain⟨B,C,D,A,P,_,E,_⟩:=(t j4).1 sz ver fr es u;obtain⟨Q,F⟩:=d j4 sz B C D A;refine⟨j4,fun M=>?_⟩;obtain⟨a1,a2,a3,a4⟩:=E j4;obtain⟨N,L,O⟩:=F j4;rw[a1,a2,a3];exact⟨N,L,O⟩
  case osl k g V s o l=>
   unfold j9 at hp⊢;obtain⟨a,c,q,I,J,K,gn,ob,h1,z,d⟩:=hp;obtain⟨gn',ob',r,H,t⟩:=x.kp k gn ob h1;refine⟨a,c,q,I,J,K,gn',ob',r,j4,fun e sz ver fr es u=>?_⟩;obtain⟨B,C,D,A,P,_,E,_⟩:=(t j4).1 sz ver fr es u;obtain⟨Q,F⟩:=d j4 sz B C D A;refine⟨j4,fun M=>?_⟩;obtain⟨a1,a2,a3,a4⟩:=E j4;obtain⟨N,L,O⟩:=F j4;rw[a1,a2];exact⟨N,L,O⟩
  case nown k g ver i j o l=>
   unfold j9 at hp⊢;obtain⟨a,c,q,I,J,K,gn,ob,h1,z,d⟩:=hp;obtain⟨gn',ob',r,H,t⟩:=x.kp k gn ob h1;refine⟨a,c,q,I,J,K,gn',ob',r,j4,fun e sz vr fr es u=>?_⟩;obtain⟨B,C,D,A,_,P,_,E⟩:=(t j4).1 sz vr fr es u;obtain⟨Q,F⟩:=d j4 sz B C D A;refine⟨j4,fun M=>?_⟩;obtain⟨ns,S,N,L,O⟩:=F j4;obtain⟨T,c0,l1,a1,a2,a3,a4⟩:=E j4 i j ns S;rw[a1,a2,a4];exact⟨T,c0,j4,L,O⟩
  case ptr k g o=>
   unfold j9 at hp⊢;obtain⟨b,q,gn,ob,h1,z,d⟩:=hp;obtain⟨gn',ob',r,H,t⟩:=x.kp k gn ob h1;refine⟨b,q,gn',ob',r,j4,fun e cs u=>?_⟩;obtain⟨U,A,a1,_⟩:=(t j4).2.1 cs u;rw[a1];exact d j4 U A
  case vsl k g o s l=>
   unfold j9 at hp⊢;obtain⟨b,f,c,q,I,J,K,gn,ob,h1,z,d⟩:=hp;obtain⟨gn',ob',r,H,t⟩:=x.kp k gn ob h1;refine⟨b,f,c,q,I,J,K,gn',ob',r,j4,fun e cs u=>?_⟩;obtain⟨U,A,a1,_⟩:=(t j4).2.1 cs u;rw[a1];exact d j4 U A
  case eptr k g V s i j=>
   unfold j9 at hp⊢;obtain⟨b,f,q,gn,ob,h1,z,d⟩:=hp;obtain⟨gn',ob',r,H,t⟩:=x.kp k gn ob h1;refine⟨b,f,q,gn',ob',r,j4,fun e sz ver fr es u=>?_⟩;obtain⟨B,C,D,A,P,_,E,_⟩:=(t j4).1 sz ver fr es u;obtain⟨Q,F⟩:=d j4 sz B C D A;refine⟨j4,fun M=>?_⟩;obtain⟨a1,_⟩:=E j4;rw[a1];exact F j4
  case nptr k g ver s i j m l=>
   unfold j9 at hp⊢;obtain⟨b,f,q,gn,ob,h1,z,d⟩:=hp;obtain⟨gn',ob',r,H,t⟩:=x.kp k gn ob h1;refine⟨b,f,q,gn',ob',r,j4,fun e sz vr fr es u=>?_⟩;obtain⟨B,C,D,A,_,P,_,E⟩:=(t j4).1 sz vr fr es u;obtain⟨Q,F⟩:=d j4 sz B C D A;refine⟨j4,fun M=>?_⟩;obtain⟨ns,S,N,L,O⟩:=F j4;obtain⟨T,c0,l1,a1,a2,a3,a4⟩:=E j4 i j ns S;rw[a1,a4];exact⟨T,c0,N,L,j4⟩
  case fptr cs=>unfold j9 at hp⊢;exact hp.mono x.zz x.zw
  case agg=>exact absurd rfl (W _)
  case tup=>exact absurd rfl (X _)
  case fn=>exact absurd rfl (Y _ _ _)
  all_goals (unfold j9 at hp⊢;exact hp)
 intro n
 induction n with
 |zero=>
  intro v p hp;cases p
  case agg|tup|fn=>unfold j9 at hp;exact hp.elim
  all_goals exact base k8 k8 k8 hp
 |succ n R=>
  intro v p hp;cases p
  case agg cs=>unfold j9 at hp⊢;obtain⟨vs,h1,z⟩:=hp;exact⟨vs,h1,z.mono fun _ _ y=>R y⟩
  case tup cs=>unfold j9 at hp⊢;obtain⟨vs,h1,z⟩:=hp;exact⟨vs,h1,z.mono fun _ _ y=>R y⟩
  case fn f a c=>unfold j9 at hp⊢;obtain⟨vs,us,h1,z,d⟩:=hp;exact⟨vs,us,h1,z.mono fun _ _ y=>R y,d.mono fun _ _ y=>R y⟩
  all_goals exact base k8 k8 k8 hp
theorem j9.up:∀{n:Nat} {v:Value} {p:PV},j9 G h w n v p→j9 G h w (n+1) v p:=by
 intro n
 induction n with
 |zero=>
  intro v p hp;cases p
  case agg|tup|fn=>unfold j9 at hp;exact hp.elim
  all_goals (unfold j9 at hp⊢;exact hp)
 |succ n d=>
  intro v p hp;cases p
  case agg cs=>unfold j9 at hp⊢;obtain⟨vs,h1,b⟩:=hp;exact⟨vs,h1,b.mono fun _ _ y=>d y⟩
  case tup cs=>unfold j9 at hp⊢;obtain⟨vs,h1,b⟩:=hp;exact⟨vs,h1,b.mono fun _ _ y=>d y⟩
  case fn f a c=>unfold j9 at hp⊢;obtain⟨vs,us,h1,b,e⟩:=hp;exact⟨vs,us,h1,b.mono fun _ _ y=>d y,e.mono fun _ _ y=>d y⟩
  all_goals (unfold j9 at hp⊢;exact hp)
theorem j9.cell{n m:Nat}{v:Value}{p:PV}(c:(∀cs,p≠ .agg cs)∧(∀cs,p≠ .tup cs)∧∀f a b,p≠ .fn f a b)(hp:j9 G h w n v p):j9 G h w m v p:=by
 cases p
 case agg=>exact absurd rfl (c.1 _)
 case tup=>exact absurd rfl (c.2.1 _)
 case fn=>exact absurd rfl (c.2.2 _ _ _)
 all_goals (cases n<;>cases m<;>(unfold j9 at hp⊢;exact hp))
theorem G9.ext{k i j:Nat}{u:Value}{c:PV}(x:Ext G h w G' h' w')(a:C8 G G' (nest k i j))(hb:G.R (nest k i j)→w'.heap[G.β (nest k i j)]?=w.heap[G.β (nest k i j)]?)(hp:G9 G h w k i j u c):G9 G' h' w' k i j u c:=by
 cases c
 case uslc ns=>
  unfold G9 O2 at hp⊢;obtain⟨a1,a2,a3,a4⟩:=a;rw[a1,a2,a3,a4];refine⟨fun r=>?_,hp.2⟩;obtain⟨us,T,f,c,h1,h0,b,d,g,l,m,n,o⟩:=hp.1 r;refine⟨us,T,f,c,h1,h0,b,d,g,by rw[hb r];exact l,m,n,fun i e he=>?_⟩;obtain⟨p,q⟩:=o i e he;refine⟨p,fun j c s=>?_⟩;obtain⟨t,v,y,z⟩:=q j c s;exact⟨t,v,y,z.mono x.zz x.zw⟩
 all_goals (unfold G9 at hp⊢;exact⟨hp.1,hp.2.ext x⟩)
theorem O2.key(x:Ext G h w G' h' w'){key:Key}{u:Value}{ns:List PV}(a:C8 G G' key)(hb:G.R key→w'.heap[G.β key]?=w.heap[G.β key]?)(hp:O2 G w key u ns):O2 G' w' key u ns:=by unfold O2 at hp⊢;obtain⟨a1,a2,a3,a4⟩:=a;rw[a1,a2,a3,a4];refine⟨fun r=>?_,hp.2⟩;obtain⟨us,T,f,c,h1,h0,b,d,g,k,l,m,n⟩:=hp.1 r;refine⟨us,T,f,c,h1,h0,b,d,g,by rw[hb r];exact k,l,m,fun i e he=>?_⟩;obtain⟨o,p⟩:=n i e he;refine⟨o,fun j c q=>?_⟩;obtain⟨s,v,t,y⟩:=p j c q;exact⟨s,v,t,y.mono x.zz x.zw⟩
theorem a0c.ext{k i:Nat}{u:Value}{c:PV}(x:Ext G h w G' h' w')(a:C8 G G' (nest k i 0))(hb:G.R (nest k i 0)→w'.heap[G.β (nest k i 0)]?=w.heap[G.β (nest k i 0)]?)(hp:a0c G h w k i u c):a0c G' h' w' k i u c:=by
 cases c
 case uslc ns=>unfold a0c at hp⊢;exact O2.key x a hb hp
 all_goals (unfold a0c at hp⊢;exact hp.ext x)
theorem F7.ext{k:Nat}{o:Ob}(x:Ext G h w G' h' w')(a:∀y,C8 G G' (k,y))(hb:∀y,G.R (k,y)→w'.heap[G.β (k,y)]?=w.heap[G.β (k,y)]?)(hp:F7 G h w k o):F7 G' h' w' k o:=by
 cases o with
 |dead=>trivial
 |var cs=>
  unfold F7 at hp⊢;obtain⟨r,us,T,h1,b⟩:=hp;obtain⟨a1,a2,_⟩:=a none;rw[show G'.β (root k)=G.β (root k)from a1];exact⟨a2.2 r,us,T,by rw[hb none r];exact h1,b.mono fun _ _ y=>⟨y.1,y.2.ext x⟩⟩
 |mp fr ks vs=>
  unfold F7 at hp⊢;obtain⟨r,h1,es,q,b,d,f⟩:=hp;obtain⟨a1,a2,_⟩:=a none;rw[show G'.β (root k)=G.β (root k)from a1];refine⟨a2.2 r,h1,es,q,by rw[hb none r];exact b,d,fun i c g=>?_⟩;obtain⟨e,l,m⟩:=f i c g;exact⟨e,l,m.ext x (a _) (hb _)⟩
 |arr sz ver fr es=>
  unfold F7 at hp⊢;obtain⟨a1,a2,a3,a4⟩:=a none;rw[show G'.β (root k)=G.β (root k)from a1,show G'.γ (root k)=G.γ (root k)from a3];obtain⟨h1,b,d,f,l⟩:=hp;refine⟨h1,b,d,fun r=>?_,fun r=>l fun y=>r (a2.2 y)⟩;obtain⟨us,T,m,n,p⟩:=f (a2.1 r);refine⟨us,T,by rw[hb none (a2.1 r)];exact m,n,fun i e he=>?_⟩;obtain⟨s,t⟩:=p i e he;refine⟨s,fun j c g=>?_⟩;obtain⟨u,v,z⟩:=t j c g;exact⟨u,v,z.ext x (a _) (hb _)⟩
def b4f(G G':Gh)(h:Heap)(k:Nat)(y:Option (Nat×Nat)):Prop:=C8 G G' (k,y)∨(¬G'.R (k,y)∧∀g o,h[k]?=some (g,o)→o=.dead)
theorem s6.update(r:s6 B Z0 G h w)(k:Nat)(j:Nat)(o':Ob)(I:k<h.length)(x:Ext G h w G' (h.set k (j,o')) w')
 (hs:∀a y,a≠k→b4f G G' h a y) (hw:∀a y,a≠k→G.R (a,y)→w'.heap[G.β (a,y)]?=w.heap[G.β (a,y)]?) (t:w.heap.size≤w'.heap.size)
 (u:∀b,G'.Z b→U8 w' b) (v:∀b,G'.Z b→G.Z b∨B≤b) (z:∀a y,a≠k→G.R (a,y)→¬G.Z (G.β (a,y))→¬G'.Z (G.β (a,y)))
 (J:∀y,G'.R (k,y)→B≤G'.β (k,y)∧U8 w' (G'.β (k,y))∧(a7s o'=true→¬G'.Z (G'.β (k,y)))∧(∀f,G'.R (k,f)→G'.β (k,y)=G'.β (k,f)→y=f)∧∀a f,a≠k→G'.R (a,f)→G'.β (k,y)≠G'.β (a,f))
 (K:b4J o'=true→∀y,G'.R (k,y)→G'.Z (G'.β (k,y)))
 (L:F7 G' (h.set k (j,o')) w' k o'):s6 B Z0 G' (h.set k (j,o')) w':=by
 have i:∀a y,a≠k→G'.R (a,y)→C8 G G' (a,y):=fun a y c e=>(hs a y c).resolve_right fun x=>x.1 e;refine⟨U3 r.base t,fun b hb=>(v b hb).elim (r.zo b) .inr,u,fun key l=>?_,fun a g o d A y e=>?_,fun a g o d C y e=>?_,fun key key' h1 p he=>?_,fun a g o d=>?_⟩
 . obtain⟨a,y⟩:=key;by_cases c:a=k
   . grind
   . obtain⟨a1,a2,_⟩:=i a y c l;obtain⟨m,n⟩:=r.lv _ (a2.1 l);rw[a1];exact⟨m,n.eq (hw a y c (a2.1 l))⟩
 . by_cases c:a=k
   . grind
   . rw[F4 (Ne.symm c)]at d;obtain⟨a1,a2,_⟩:=i a y c e;rw[a1];exact z a y c (a2.1 e) (r.nz a g o d A y (a2.1 e))
 . by_cases c:a=k
   . grind
   . rw[F4 (Ne.symm c)]at d;obtain⟨a1,a2,_⟩:=i a y c e;rw[a1];exact x.zz _ (r.fz a g o d C y (a2.1 e))
 . obtain⟨q,D⟩:=key;obtain⟨s,E⟩:=key';by_cases F:q=k<;>by_cases H:s=k
   . grind
   . grind
   . grind
   . obtain⟨a1,a2,_⟩:=i q D F h1;obtain⟨m,n,_⟩:=i s E H p;exact r.inj _ _ (a2.1 h1) (n.1 p) (a1.symm.trans (he.trans m))
 . by_cases c:a=k
   . grind
   . rw[F4 (Ne.symm c)]at d;by_cases hd:o=.dead
     . subst hd;trivial
     . exact(r.ob a g o d).ext x (fun y=>(hs a y c).resolve_right fun x=>hd (x.2 g o d)) (fun y=>hw a y c)
theorem s6.cells(r:s6 B Z0 G h w)(hs:w.heap.size≤w'.heap.size)(a:∀b,U8 w b→w'.heap[b]?=w.heap[b]?):s6 B Z0 G h w'∧Ext G h w G h w':=by
 have x:Ext G h w G h w':=⟨fun _ y=>y,fun b hb=>a b (r.zb b hb),fun k gn ob e=>⟨gn,ob,e,p7 _,fun _=>K7.refl k ob (C8.refl _ _) fun _ _=>C8.refl _ _⟩⟩
 exact⟨⟨U3 r.base hs,r.zo,fun b hb=>(r.zb b hb).eq (a b (r.zb b hb)),fun key c=>⟨(r.lv key c).1,(r.lv key c).2.eq (a _ (r.lv key c).2)⟩,r.nz,r.fz,r.inj,
  fun k g o d=>(r.ob k g o d).ext x (fun y=>C8.refl _ _) fun y f=>a _ (r.lv _ f).2⟩,x⟩
end
def ofC:Value→Option PV
 | .bool b=>some (.bool b)
 | .int k n=>some (.int k n)
 | .string s=>some (.str s)
 | .pointer none=>some (.lit (.pointer none))
 | .slice none 0 0=>some .nils
 | .nilFunc=>some (.lit .nilFunc)
 | .nilIface=>some (.lit .nilIface)
 | .map none=>some (.lit (.map none))
 |_=>none
def a8H:List Value→Option (List PV)
 | []=>some []
 |c::cs=>match ofC c,a8H cs with
  |some a,some b=>some (a::b)
  |_,_=>none
def ofV:Value→Option PV
 | .agg cs=>(a8H cs.toList).map .agg
 |v=>ofC v
def a1D(P:Program)(t:TypeId):Option Bool:=match P.underlying t with
 |some (.struct _)|some (.array _ _)=>some true
 |some _=>some false
 |none=>none
def I9(P:Program)(t:TypeId):Option Nat:=(P.info? t).map (·.size)
def a0v(P:Program)(t:TypeId):Option PV:=match P.info? t with
 |some i=>match i.zero with
  |some z=>ofV z
  |none=>none
 |none=>none
def a5u(P:Program)(t:TypeId):Option Nat:=(P.info? t).map (·.bytes)
def a8O(P:Program)(t:TypeId)(f:Nat):Option Field:=match P.underlying t with
 |some (.struct a)=>a[f]?
 |_=>none
def a4q(P:Program)(t:TypeId):Option TypeId:=match P.underlying t with
 |some (.slice e)=>some e
 |_=>none
def d2g(P:Program)(t:TypeId):Bool:=match P.underlying t with
 |some .bool|some (.int _)|some .string=>true
 |_=>false
def b0C(P:Program)(t:TypeId):Bool:=match P.underlying t with
 |some .bool=>true
 |_=>false
def N1{α β:Type}(f:α→Option β):List α→Option (List β)
 | []=>some []
 |a::l=>match f a,N1 f l with
  |some b,some m=>some (b::m)
  |_,_=>none
def a8X(P:Program):List Field→Option (List (Nat×Nat))
 | []=>some []
 |f::a=>match P.info? f.type,a8X P a with
  |some i,some l=>some ((f.offset,i.size)::l)
  |_,_=>none
def a3K(rd:Operand→Option A6):Option Operand→Option (Option A6)
 |none=>some none
 |some x=>(rd x).map some
def b0a(P:Program):Nat→TypeId→Option (List Nat)
 |0,_=>none
 |n+1,t=>match P.underlying t with
  |some (.slice e)=>(I9 P e).map ([·])
  |some (.struct a)=>(N1 (fun(f:Field)=>b0a P n f.type) a.toList).map List.flatten
  |some (.array m e)=>(b0a P n e).map fun l=>(List.replicate m l).flatten
  |some (.tuple ts)=>(N1 (b0a P n) ts.toList).map List.flatten
  |some _=>some [0]
  |none=>none
def b4i(k:Nat):List Nat→List (Nat×Nat)
 | []=>[]
 |0::l=>(0,0)::b4i k l
 |s::l=>(k,s)::b4i (k+1) l
def b5U:PV→Bool
 | .int .u8 n=>n==0
 |_=>false
def b7h(P:Program)(t:TypeId):Bool:=match P.underlying t with
 |some .string=>true
 |_=>false
def a8x(P:Program)(rd:Operand→Option A6)(k:Nat)(app:Nat×Option Nat)(b:Builtin)(args:List Operand)(ts:List TypeId):Option N3:=
 match b,args,ts with
 | .len,[x],[t]=>match P.underlying t with
  |some .string=>(rd x).map (.len true)
  |some (.slice _)=>(rd x).map (.len false)
  |_=>none
 | .min,x::xs,t::_=>match P.underlying t,N1 rd (x::xs)with
  |some (.int _),some c=>some (.minmax false c)
  |_,_=>none
 | .max,x::xs,t::_=>match P.underlying t,N1 rd (x::xs)with
  |some (.int _),some c=>some (.minmax true c)
  |_,_=>none
 | .append,[s,x],[t,u]=>match P.underlying t with
  |some (.slice e)=>match I9 P e,a5u P e,(a0v P e),rd s,rd x with
   |some sz,some a,some z,some s,some x=>if sz≠0∧a≠0∧(l6 z).length=sz∧u=t∧app.1≠5 then some (.append (app.2.getD k) sz a app.1 s x)else if sz=1∧a≠0∧b5U z=true∧b7h P u=true then some (.append (app.2.getD k) 1 a 5 s x)else none
   |_,_,_,_,_=>none
  |_=>none
 | .copy,[d,s],[t,_]=>match P.underlying t with
  |some (.slice e)=>match I9 P e,rd d,rd s with
   |some sz,some d,some s=>if sz≠0 then some (.copy sz d s)else none
   |_,_,_=>none
  |_=>none
 | .clear,[x],[t]=>match P.underlying t with
  |some (.map _ _)=>(rd x).map .clearM
  |some (.slice e)=>match a0v P e,rd x with
   |some z,some x=>if I9 P e=some 1∧(l6 z).length=1∧A7 z=true then some (.clearS z x)else none
   |_,_=>none
  |_=>none
 |_,_,_=>none
def b1b(P:Program)(t:TypeId):Option Nat:=match P.underlying t with
 |some (.array n e)=>if I9 P e=some 1∧n≠0 then some n else none
 |_=>none
def b0u(P:Program)(t:TypeId):Option (Nat×Nat):=match P.underlying t with
 |some (.array n e)=>(I9 P e).map fun s=>(n,s)
 |_=>none
def b6i(P:Program)(t:TypeId):Bool:=match P.underlying t with
 |some (.pointer _)=>true
 |_=>false
def b6R(P:Program)(t:TypeId):Bool:=match P.underlying t with
 |some (.slice _)=>true
 |_=>false
def a7L(P:Program)(t:TypeId):Option Nat:=match P.underlying t with
 |some .bool=>some 0
 |some (.int _)=>some 1
 |some .string=>some 2
 |_=>none
def b0k(P:Program):Nat→List Field→Option (List Nat)
 |_,[]=>some []
 |i,f::a=>if f.name≠ "_" ∧f.offset=i∧I9 P f.type=some 1 then(match a7L P f.type,b0k P (i+1) a with
  |some k,some l=>some (k::l)
  |_,_=>none)else none
def b2C(P:Program)(t:TypeId):Option (List Nat):=match P.underlying t with
 |some (.struct a)=>if P.stoodInHeld t=false∧P.eqGuardType P.depth t=false then b0k P 0 a.toList else none
 |_=>none
def a0M(ops:List Oper)(t:Tmp):Nat→Option Nat
 |0=>none
 |i+1=>if(ops[i]?.bind (·.dst))=some t then some i else a0M ops t i
def c4e(n:Nat)(ops:List Oper):Bool:=ops.zipIdx.any fun x=>match x.1.op with
 | .call c=>(match c.callee,c.args[0]? with
  | .builtin .append,some (Operand.tmp t)=>(match a0M ops t x.2 with
   |none=>Nat.blt t n
   |some j=>match(ops[j]?).map (·.op)with
    |some (Op.move (Operand.tmp t0))=>Nat.blt t0 n
    |_=>false)
  |_,_=>false)
 |_=>false
def b1u(n:Nat):Code→Bool
 | .region _ ops _=>c4e n ops.toList
 | .seq a b| .cond _ a b| .rangeFunc _ _ a b=>b1u n a||b1u n b
 | .block _ b| .loop b| .scope b=>b1u n b
 |_=>false
def b3Q(P:Program)(t:TypeId):Bool:=match P.underlying t with
 |some (.pointer _)|some (.func ..)=>true
 |some (.tuple ts)=>ts.toList.any fun t=>match P.underlying t with
  |some (.pointer _)|some (.func ..)=>true
  |_=>false
 |_=>false
def b8s(P:Program)(f:FuncId):Bool:=match P.funcs[f]? with
 |some fn=>match fn.body with
  |some c=>fn.params.toList.any (b3Q P)||b1u fn.params.size c
  |none=>false
 |none=>false
def b5w(P:Program)(ats:List TypeId)(ty:TypeId):Bool:=ats.any (b3Q P)||b3Q P ty
def roF:List Nat:=[80,83,43,84,49,85,47,89,90,88,184,52,96]
def fiF:List Nat:=[81,124,120]
def neF:List Nat:=[244]
def a5H(P:Program)(g:TypeId→Option (List Nat)):Nat→List Field→Option (List Nat)
 |_,[]=>some []
 |i,f::a=>match g f.type with
  |some ts=>if f.name≠ "_" ∧f.offset=i∧I9 P f.type=some ts.length then(a5H P g (i+ts.length) a).map (ts++ ·)else none
  |none=>none
def a0T(P:Program):Nat→TypeId→Option (List Nat)
 |0,_=>none
 |n+1,t=>match P.underlying t with
  |some .bool=>some [0]
  |some (.int _)=>some [1]
  |some .string=>some [2]
  |some (.struct a)=>if P.stoodInHeld t=false then a5H P (a0T P n) 0 a.toList else none
  |_=>none
def a7R(P:Program)(t:TypeId):Option Nat:=match P.underlying t with
 |some .bool=>some 0
 |some (.int _)=>some 1
 |some .string=>some 2
 |some (.struct _)=>(a0T P 3 t).map fun ts=>4+a3X ts
 |_=>none
def mapA(P:Program)(t:TypeId):Option (Nat×PV×Nat):=match P.underlying t with
 |some (.map kt a)=>match a7R P kt,a0v P a with
  |some n,some z=>some (n,z,match a4q P a with
   |some e=>(I9 P e).getD 0
   |none=>0)
  |_,_=>none
 |_=>none
def a2H(P:Program)(rd:Operand→Option A6)(k:Nat)(app:Nat×Option Nat)(al:Bool)(type:TypeId):Op→Option N3
 | .move x| .assign x=>(rd x).map .mv
 | .pick c a b=>match rd c,rd a,rd b with
  |some c,some a,some b=>some (.pick c a b)
  |_,_,_=>none
 | .alloc e=>match b1b P e with
  |some _=>(a0v P e).map fun z=>.allocA k ((l6 z).map a1M)
  |none=>(a0v P e).map fun z=>.alloc k (l6 z)
 | .box e x=>match b1b P e with
  |some _=>(rd x).map (.boxA k)
  |none=>(rd x).map (.box k)
 | .build t ps=>match a0v P t,P.underlying t with
  |some z,some (.struct h)=>match a8X P h.toList with
   |some places=>match N1 (fun(p:Nat×Operand)=>match places[p.1]?,rd p.2 with
    |some q,some x=>some (q.1,q.2,x)
    |_,_=>none) ps.toList with
    |some l=>some (.build (l6 z) l)
    |none=>none
   |none=>none
  |some z,some (.array _ e)=>match I9 P e,N1 (fun(p:Nat×Operand)=>(rd p.2).map fun x=>(p.1,x)) ps.toList with
   |some s,some l=>some (.build (l6 z) (l.map fun p=>(p.1*s,s,p.2)))
   |_,_=>none
  |_,_=>none
 | .buildSlice t n ps=>match a4q P t with
  |some e=>match I9 P e,a0v P e,N1 (fun(p:Nat×Operand)=>(rd p.2).map fun x=>(p.1,x)) ps.toList with
   |some s,some z,some l=>if s≠0∧n*s≤16777216∧(l6 z).length=s then some (if app.1=3 then .lit s (List.replicate n z) l else if n=0∧l.length=0∧neF.contains t=true then .lit 0 [] []else .mkarr k s (List.replicate n z) l)else none
   |_,_,_=>none
  |none=>none
 | .load t a=>match a1D P t,I9 P t,rd a with
  |some g,some s,some a=>if s≠0 then some (if app.1=5 then .loadV g s a else if g=true∧b1b P t=some s then .loadA s a else .load g s a)else none
  |_,_,_=>none
 | .store t a v=>match I9 P t,rd a,rd v with
  |some s,some a,some v=>if s≠0 then some (if b1b P t=some s then .storeA s a v else .store s a v)else none
  |_,_,_=>none
 | .nilCheck x=>(rd x).map .nilchk
 | .binOp op t x y _=>if op=.eql∨op=.neq then(if d2g P t then(match rd x,rd y with
  |some x,some y=>some (.bin op (b0C P t) x y)
  |_,_=>none)else if b6R P t then(match rd x,rd y with
   |some x,some y=>some (.eqNil (op==.neq) x y)
   |_,_=>none)else if b6i P t then(match rd x,rd y with
   |some x,some y=>some (.eqPtr (op==.neq) x y)
   |_,_=>none)else(match b2C P t,rd x,rd y with
  |some ts,some x,some y=>some (.eqS (op==.neq) ts x y)
  |_,_,_=>none))else(match rd x,rd y with
  |some x,some y=>some (.bin op (b0C P t) x y)
  |_,_=>none)
 | .unOp op _ x=>(rd x).map (.un op)
 | .convert s d x=>match P.underlying s,P.underlying d with
  |some (.int _),some (.int k)=>(rd x).map (.conv k)
  |some (.slice e),some .string=>(match P.underlying e with
   |some (.int .u8)=>if I9 P e=some 1 then(rd x).map .convStr else none
   |_=>none)
  |_,_=>none
 | .makeSlice t l c=>match a4q P t with
  |some e=>match I9 P e,a5u P e,a0v P e,rd l,rd c with
   |some s,some b,some z,some l,some c=>if s≠0∧(l6 z).length=s∧(l6 z).all one then some (.makeSlice k s b z l c)else none
   |_,_,_,_,_=>none
  |none=>none
 | .slice t x lo hi mx=>match P.underlying t with
  |some .string=>match rd x,a3K rd lo,a3K rd hi,a3K rd mx with
   |some x,some lo,some hi,some mx=>some (.slice true 0 x lo hi mx)
   |_,_,_,_=>none
  |some (.slice e)=>match I9 P e,rd x,a3K rd lo,a3K rd hi,a3K rd mx with
   |some s,some x,some lo,some hi,some mx=>some (.slice false s x lo hi mx)
   |_,_,_,_,_=>none
  |some (.array _ _)=>match rd x,a3K rd lo,a3K rd hi,mx with
   |some x,some lo,some hi,none=>(b0u P t).map fun y=>.sliceV y.1 y.2 x lo hi
   |_,_,_,_=>none
  |_=>none
 | .fieldAddr s x f=>match a8O P s f with
  |some f=>match I9 P f.type,rd x with
   |some s,some x=>if s≠0 then some (.fieldAddr f.offset x)else none
   |_,_=>none
  |none=>none
 | .field t x f=>match a8O P t f with
  |some f=>match a1D P f.type,I9 P f.type,rd x with
   |some g,some s,some x=>if s≠0 then some (.field g f.offset s x)else none
   |_,_,_=>none
  |none=>none
 | .indexAddr t x i=>match P.underlying t with
  |some (.slice e)=>match I9 P e,rd x,rd i with
   |some s,some x,some i=>if s≠0 then some (.indexAddr s x i)else none
   |_,_,_=>none
  |some (.array n e)=>match I9 P e,rd x,rd i with
   |some s,some x,some i=>if s≠0 then some (.indexAddrA n s x i)else none
   |_,_,_=>none
  |_=>none
 | .index t x i=>match P.underlying t with
  |some .string=>match rd x,rd i with
   |some x,some i=>some (.indexS x i)
   |_,_=>none
  |_=>none
 | .extract x i=>(rd x).map (.extract · i)
 | .makeFunc f a b=>match N1 rd a.toList,N1 rd b.toList with
  |some a,some b=>some (.mkfn f a b)
  |_,_=>none
 | .call c=>match c.callee with
  | .builtin b=>a8x P rd k app b c.args.toList c.argTypes.toList
  | .value (.func f)=>if((b5w P c.argTypes.toList type||b8s P f)&&!roF.contains f)||fiF.contains f then(match rd (.func f),N1 rd c.args.toList with
   |some f,some l=>some (.callv f l)
   |_,_=>none)else(match N1 rd c.args.toList,b0a P 5 type with
   |some l,some ks=>some (.call f l (b4i k ks) (!al&&c.argTypes.all fun t=>(a0T P 4 t).isSome))
   |_,_=>none)
  | .value f=>match rd f,N1 rd c.args.toList with
   |some f,some l=>some (if al then .cally f l else .callv f l)
   |_,_=>none
  |_=>none
 | .makeMap t r=>match r with
  |none=>some (.makeMap k none)
  |some r=>(match P.underlying t with
   |some (.map _ _)=>(rd r).map fun d=>.makeMap k (some d)
   |_=>none)
 | .lookup t m x ok=>match mapA P t,rd m,rd x with
  |some (kt,z,s),some m,some x=>some (if app.1=7∧ok=false∧s≠0 then .lookupT k kt s z m x else .lookup kt ok z m x)
  |_,_,_=>none
 | .mapUpdate t m x v| .insert t m x v=>match mapA P t,rd m,rd x,rd v with
  |some (kt,_,_),some m,some x,some v=>some (.mapUpd kt m x v)
  |_,_,_,_=>none
 |_=>none
def L4:N3→Nat
 | .alloc .. | .box .. | .makeSlice .. | .allocA .. | .boxA .. | .makeMap .. =>1
 | .lit .. | .mkarr .. | .load .. | .loadV .. | .call .. | .loadA .. | .convStr .. | .lookup .. =>2
 | .append _ _ _ m _ _=>if m=2 then 2 else 3
 | .store .. | .storeN .. | .copy .. | .callv .. | .cally .. | .storeA .. | .mapUpd .. | .lookupT .. | .clearM .. | .clearS .. =>3
 |_=>0
def a0l(vs:List Nat)(ops:List Oper)(i:Nat):Operand→Option A6
 | .tmp t=>match a0M ops t i with
  |some j=>some (.l j)
  |none=>(vs.idxOf? t).map .v
 | .const v=>(ofV v).map .c
 | .func f=>some (.c (.fn (.func f) [] []))
 | .global _=>none
def a8z(o:Oper):List Tmp:=o.op.operands.toList.filterMap fun(x:Operand)=>match x with| .tmp t=>some t|_=>none
def a6C(o:Oper)(rd:Operand→Option A6)(x:Operand):Option A6:=match x with
 | .tmp t=>if(a8z o).contains t then rd x else none
 |x=>rd x
def b8I(ops:List Oper)(i:Nat):Option Operand→Bool
 |some (Operand.tmp t)=>match a0M ops t i with
  |some j=>match(ops[j]?).map (·.op)with
   |some (Op.buildSlice ..)=>true
   |_=>false
  |none=>false
 |_=>false
def b6s(xs:List l5)(a:Bool):Nat→Nat→Option Nat
 |0,_=>none
 |n+1,j=>match(xs[j]?).map (·.op)with
  |some (N3.mkarr k ..)=>some k
  |some (N3.makeSlice k ..)=>some k
  |some (N3.append k _ _ 2 _ _)=>some k
  |some (N3.call _ _ [(k,s)] _)=>if a∧s≠0 then some k else none
  |some (N3.mv (.l b))=>if a then b6s xs a n b else none
  |_=>none
def newAt(ops:List Oper)(xs:List l5)(a:Bool)(i:Nat):Option Operand→Option Nat
 |some (Operand.tmp t)=>match a0M ops t i with
  |some j=>b6s xs a 4 j
  |none=>none
 |_=>none
def readOnly(P:Program)(vs:List Nat)(ops:List Oper)(i:Nat):Option Tmp→Bool
 |some t=>!vs.contains t&&(ops.drop (i+1)).all fun o=>!(a8z o).contains t||(match o.op with
  | .call c=>(match c.callee with
   | .value (.func f)=>!(((b5w P c.argTypes.toList o.type||b8s P f)&&!roF.contains f)||fiF.contains f)
   |_=>false)
  | .buildSlice .. | .build .. =>true
  |_=>false)
 |none=>false
def waitsFor(acc:List Nat)(o:Oper):Nat:=
 o.after.toList.foldr (fun e m=>if Region.binds .any e&&Nat.blt e.on acc.length then m|||(2^e.on|||acc.getD e.on 0)else m) 0
def I2(acc:List Nat):List Oper→List Nat
 | []=>acc
 |o::rest=>I2 (acc++[waitsFor acc o]) rest
def P8(ws:List Nat)(i j:Nat):Bool:=if j<i then !((ws.getD i 0).testBit j)else if i<j then !((ws.getD j 0).testBit i)else false
def b6v(ops:List Oper)(i:Nat)(o:Oper):Bool:=match o.op with
 | .lookup _ _ _ false=>match o.dst with
  |some t=>(ops.drop (i+1)).any fun o=>match o.op with
   | .call c=>(match c.callee with
    | .builtin .append=>(match c.args[0]? with
     |some (Operand.tmp a)=>a==t
     |_=>false)
    |_=>false)
   |_=>false
  |none=>false
 |_=>false
def c9b(ops:List Oper)(ws:List Nat)(i:Nat):Bool:=ops.zipIdx.any fun x=>P8 ws i x.2&&(b6v ops x.2 x.1||(match x.1.op with
 | .call c=>(match c.callee with
  | .builtin .append=>true
  |_=>false)
 |_=>false))
def a9B(ops:List Oper):Nat→Nat→Nat→Bool
 |0,_,_=>false
 |n+1,i,t=>match a0M ops t i with
  |none=>true
  |some j=>(match(ops[j]?).map (·.op)with
   |some (Op.fieldAddr _ (Operand.tmp a) _)=>a9B ops n j a
   |some (Op.nilCheck (Operand.tmp a))=>a9B ops n j a
   |some (Op.move (Operand.tmp a))=>a9B ops n j a
   |some (Op.load _ (Operand.tmp a))=>a9B ops n j a
   |_=>false)
def tight(os:List Op)(ws:List Nat)(i:Nat):Bool:=os.zipIdx.all fun x=>!P8 ws i x.2||(match x.1 with
 | .move _| .assign _=>true
 |_=>false)
def c5j(P:Program)(vs:List Nat)(ops:List Oper)(xs:List l5)(a:Bool)(i:Nat)(o:Oper):Nat×Option Nat:=match o.op with
 | .call c=>match c.callee with
  | .builtin .append=>match newAt ops xs a i c.args[0]? with
   |some k=>if b8I ops i c.args[1]?&&(!a||tight (ops.map fun o=>o.op) (I2 [] ops) i)then(1,none)else(2,some k)
   |none=>if b8I ops i c.args[1]? then(1,none)else(0,none)
  |_=>(0,none)
 | .buildSlice .. =>if readOnly P vs ops i o.dst then(3,none)else(0,none)
 | .load _ (.tmp t)=>if a&&a9B ops 6 i t&&c9b ops (I2 [] ops) i then(5,none)else(0,none)
 | .lookup .. =>if b6v ops i o then(7,none)else(0,none)
 |_=>(0,none)
def b2X(N:Nat)(o:Oper):Bool:=match o.dst with
 |some t=>Nat.blt t N
 |none=>true
def a5d(P:Program)(vs:List Nat)(N:Nat)(ops:List Oper)(al:Bool):List l5→Nat→List Oper→Option (List l5×Nat)
 |acc,k,[]=>some (acc,k)
 |acc,k,o::rest=>match a2H P (a6C o (a0l vs ops acc.length)) k (c5j P vs ops acc (!al) acc.length o) al o.type o.op with
  |none=>none
  |some x=>match(match o.guard with
   |none=>some none
   |some (j,b)=>match(ops[j]?).bind (·.dst)with
    |some t=>(a0l vs ops acc.length (.tmp t)).map fun d=>some (d,b)
    |none=>none)with
   |none=>none
   |some g=>if b2X N o then a5d P vs N ops al (acc++[{op:=x,var:=o.dst.bind (vs.idxOf? ·),guard:=g,hide:=[]}]) (k+b4Y x) rest else none
def a8m:N3→Bool
 | .call _ args _ al=>al||args.all fun a=>match a with
  | .c p=>a2K p
  |_=>false
 |_=>false
def isApp:N3→Bool
 | .append .. | .lookupT .. =>true
 |_=>false
def a5A:N3→Bool
 | .loadV .. =>true
 |_=>false
def isLit:N3→Bool
 | .lit .. | .mkarr .. =>true
 |_=>false
def quiet(op:N3):Bool:=a8m op||a5A op||isLit op
def a4C:N3→Bool
 | .callv .. =>true
 |_=>false
def avC:A6→Option Nat
 | .l n=>if Nat.blt n 1000000 then some n else none
 | .v t=>some (t+1000000)
 | .c _=>none
def a6T(x y:l5):Bool:=match x.op with
 | .load _ _ m=>(match avC m with
  |some n=>(match y.op with
   | .storeN _ _ _ av=>av.contains n
   | .callv .. =>y.hide.contains (n+1000000)
   |_=>false)
  |none=>false)
 |_=>false
def avV(xs:List l5)(y:l5):Bool:=(match y.op with
 | .storeN _ _ _ av=>av
 | .callv .. =>y.hide.map (· -1000000)
 |_=>[]).all fun n=>Nat.blt n 1000000||xs.all fun z=>z.var !=some (n-1000000)
def a2r(x y:l5):Bool:=L4 x.op==0||L4 y.op==0||(L4 x.op≤2&&L4 y.op≤2)||(isApp x.op&&quiet y.op)||(quiet x.op&&isApp y.op)||(a6T x y||a6T y x)||(a4C x.op&&L4 y.op==1)||(L4 x.op==1&&a4C y.op)
def a8d(ws:List Nat)(xs:List l5)(i:Nat):List Nat:=
 ((xs.zipIdx.filter fun y=>P8 ws i y.2).map fun y=>I1 y.1.op).flatten
def avOf(ws:List Nat)(xs:List l5)(i:Nat):List Nat:=xs.zipIdx.filterMap fun y=>if Nat.blt y.2 i&&P8 ws i y.2 then(match y.1.op with
 | .load _ _ m=>avC m
 |_=>none)else none
def a2A(ws:List Nat)(xs:List l5)(i:Nat)(x:l5):l5:=match x.op,avOf ws xs i with
 | .store sz a v,n::l=>{x with op:=.storeN sz a v (n::l),hide:=a8d ws xs i}
 | .callv f b,l=>{x with op:=.callv f b,hide:=a8d ws xs i++l.map (· +1000000)}
 |_,_=>{x with hide:=a8d ws xs i}
def a7K:N3→Bool
 | .cally .. =>true
 |_=>false
def b8P(ops:List Oper)(ws:List Nat)(xs:List l5):Bool:=
 (xs.all fun y=>avV xs y)&&(!xs.any fun x=>a7K x.op)&&(!xs.any (fun x=>a4C x.op)||!xs.any (fun x=>a5A x.op))&&(List.range ops.length).all fun j=>(List.range j).all fun i=>
  !P8 ws j i||((match ops[i]?,ops[j]? with
   |some a,some b=>a.apart ops.toArray b&&b.apart ops.toArray a
   |_,_=>false)&&(match xs[i]?,xs[j]? with
   |some a,some b=>a2r a b
   |_,_=>false))
def a4z:Nat→List Oper→Bool
 |_,[]=>true
 |i,o::r=>o.after.all (fun e=>!Region.binds .any e||Nat.blt e.on i)&&a4z (i+1) r
def a5g(P:Program)(vs:List Nat)(N:Nat)(k:Nat)(ops:List Oper)(draw:Bool):Option (List l5×Nat):=
 match a5d P vs N ops (!draw) [] k ops with
 |none=>none
 |some (xs,a)=>
  if draw then
   let ws:=I2 [] ops
   let b:=xs.zipIdx.map fun y=>a2A ws xs y.2 y.1
   if b8P ops ws b&&a4z 0 ops then some (b,a)else none
  else some (xs,a)
def c6q(ops:List Oper):Option Nat:=ops.findIdx? fun o=>match o.op with
 | .call c=>(match c.callee with
  | .value (.tmp _)=>true
  |_=>false)
 |_=>false
def b5Q(ops:List Oper)(m:Nat):Bool:=(List.range (ops.length-m)).all fun d=>(List.range (m+d)).all fun j=>((I2 [] ops).getD (m+d) 0).testBit j
def b9A(P:Program)(vs:List Nat)(N:Nat)(k:Nat)(ops:List Oper)(m:Nat):Option (List l5×Nat):=
 if b5Q ops m&&a4z 0 ops&&Nat.blt m ops.length then match a5g P vs N k (ops.take m) true with
  |some (xs,a)=>a5d P vs N ops true xs a (ops.drop m)
  |none=>none
 else none
def b0U(P:Program)(vs:List Nat)(N:Nat)(k:Nat)(ops:List Oper)(draw:Bool):Option (List l5×Nat):=
 match draw,c6q ops with
 |true,some m=>(match b9A P vs N k ops m with
  |some r=>some r
  |none=>a5g P vs N k ops true)
 |d,_=>a5g P vs N k ops d
def Z4:Code→Bool
 | .seq a b| .cond _ a b=>Z4 a&&Z4 b
 | .block _ b| .loop b| .scope b=>Z4 b
 | .rangeFunc .. =>false
 |_=>true
def E4(P:Program)(vs:List Nat)(N:Nat):Nat→Code→Option (C6×Nat)
 |k,.skip=>some (.skip,k)
 |k,.region _ ops d=>match b0U P vs N k ops.toList d with
  |some (xs,h)=>some (.reg xs,h)
  |none=>none
 |k,.seq a b=>match E4 P vs N k a with
  |some (x,e)=>match E4 P vs N e b with
   |some (y,f)=>some (.seq x y,f)
   |none=>none
  |none=>none
 |k,.cond c a b=>match E4 P vs N k a with
  |some (x,e)=>match E4 P vs N e b with
   |some (y,f)=>match a0l vs [] 0 c with
    |some c=>some (.cond c x y,f)
    |none=>none
   |none=>none
  |none=>none
 |k,.block id b=>match E4 P vs N k b with
  |some (x,e)=>some (.block id x,e)
  |none=>none
 |k,.loop b=>match E4 P vs N k b with
  |some (x,e)=>some (.loop x,e)
  |none=>none
 |k,.exit id=>some (.exit id,k)
 |k,.ret=>some (.ret,k)
 |k,.scope b=>E4 P vs N k b
 |k,.label _=>some (.skip,k)
 |k,.rangeFunc g ps a b=>match E4 P vs N k a with
  |some (x,e)=>match E4 P vs N e b with
   |some (y,f)=>match a0l vs [] 0 g with
    |some g=>if Z4 a&&Z4 b&&ps.all (Nat.blt · N)then some (.rfor g (ps.toList.map fun t=>vs.idxOf? t) x y,f)else none
    |none=>none
   |none=>none
  |none=>none
 |_,_=>none
def c6g(ops:List Oper):List Tmp:=
 ((ops.zipIdx.map fun x=>(a8z x.1++(match x.1.guard with|some (j,_)=>((ops[j]?).bind (·.dst)).toList|none=>[])).filter fun t=>(a0M ops t x.2).isNone).flatten)
def a3m:Code→List Tmp
 | .region _ ops _=>c6g ops.toList
 | .seq a b=>a3m a++a3m b
 | .cond (.tmp t) a b=>t::(a3m a++a3m b)
 | .cond _ a b=>a3m a++a3m b
 | .block _ b| .loop b| .scope b=>a3m b
 | .rangeFunc (.tmp t) _ a b=>t::(a3m a++a3m b)
 | .rangeFunc _ _ a b=>a3m a++a3m b
 |_=>[]
structure u9 where
 ntmps:Nat
 vars:List Nat
 sites:Nat
 results:List (Nat×Option (Bool×Nat))
 body:C6
 deriving Inhabited
def b6L(t:Nat):List Nat→List Nat
 | []=>[t]
 |a::l=>if t<a then t::a::l else if t=a then a::l else a::b6L t l
def varsOf(f:Func)(c:Code):List Nat:=
 (List.range (f.params.size+f.nfree)++a3m c++f.results.toList.map fun(r:ResultVar)=>match r with| .tmp t=>t| .cell a _=>a).foldl (fun l t=>b6L t l) []
def a4S(P:Program)(f:FuncId):Option u9:=
 match P.funcs[f]? with
 |none=>none
 |some fn=>match fn.body with
  |none=>none
  |some c=>
   let vs:=varsOf fn c
   match E4 P vs fn.ntmps 0 c,N1 (fun(r:ResultVar)=>match r with
    | .tmp t=>(vs.idxOf? t).map fun v=>(v,none)
    | .cell a t=>match vs.idxOf? a,a1D P t,I9 P t with
     |some v,some g,some s=>some (v,some (g,s))
     |_,_,_=>none) fn.results.toList with
   |some (x,k),some rs=>if !(fn.name== "runtime.NumGoroutine")∧a2u vs=true∧vs.all (Nat.blt · fn.ntmps)=true∧fn.params.size+fn.nfree≤fn.ntmps then some ⟨fn.ntmps,vs,k,rs,x⟩else none
   |_,_=>none
def L9(P:Program)(f:FuncId)(off:Nat):Option u9:=
 match P.funcs[f]? with
 |none=>none
 |some fn=>match fn.body with
  |none=>none
  |some c=>
   let vs:=varsOf fn c
   match E4 P vs fn.ntmps off c,N1 (fun(r:ResultVar)=>match r with
    | .tmp t=>(vs.idxOf? t).map fun v=>(v,none)
    | .cell a t=>match vs.idxOf? a,a1D P t,I9 P t with
     |some v,some g,some s=>some (v,some (g,s))
     |_,_,_=>none) fn.results.toList with
   |some (x,k),some rs=>if !(fn.name== "runtime.NumGoroutine")∧a2u vs=true∧vs.all (Nat.blt · fn.ntmps)=true∧fn.params.size+fn.nfree≤fn.ntmps then some ⟨fn.ntmps,vs,k,rs,x⟩else none
   |_,_=>none
section
variable{v:Value}{n b o:Nat}{cs:List PV}{p c r:PV}{t:TypeId}
def Good(P:Program)(B:Nat)(Z0:Nat→Prop)(G:Gh)(h:Heap)(w:World)(s:Sem Next)(p:PV)(ws:List (Nat×Row)):Prop:=
 ∃n v w' G',s.run P w=.ok n w'∧(n=.value v∨n=.skip∧v=undef)∧s6 B Z0 G' (p8 h ws) w'∧Ext G h w G' (p8 h ws) w'∧j9 G' (p8 h ws) w' D v p∧Bl B w w'
section
variable{P:Program}{B:Nat}{Z0:Nat→Prop}{G:Gh}{h:Heap}{w:World}
theorem a3h(hr:s6 B Z0 G h w){s:Sem Next}(hs:s.run P w=.ok (.value v) w)(a:j9 G h w D v p):Good P B Z0 G h w s p []:=
 ⟨_,v,w,G,hs,.inl rfl,hr,Ext.refl,a,Bl.refl _ _⟩
theorem a3T(hr:s6 B Z0 G h w){s:Sem Value}(hs:s.run P w=.ok v w)(a:j9 G h w D v p):Good P B Z0 G h w (do pure (.value (←s))) p []:=
 a3h hr (by simp[hs]) a
theorem a0X{b:Bool}(a:j9 G h w n v (.bool b)):v=.bool b:=by cases n<;>(unfold j9 at a;exact a)
theorem Z2{k:IntKind}{i:Int}(a:j9 G h w n v (.int k i)):v=.int k i:=by cases n<;>(unfold j9 at a;exact a)
theorem a2O{s:ByteArray}(a:j9 G h w n v (.str s)):v=.string s:=by cases n<;>(unfold j9 at a;exact a)
theorem a0k(a:j9 G h w n v .nils):v=.slice none 0 0:=by cases n<;>(unfold j9 at a;exact a)
theorem a3n{es:List PV}(a:j9 G h w n v (.slc es)):PR G.Z w v (.slc es):=by cases n<;>(unfold j9 at a;exact a)
theorem a5w(a:j9 G h w D v (.agg cs)):∃vs,v=.agg vs∧J4 (j9 G h w 5) vs cs:=by unfold D at a;unfold j9 at a;exact a
theorem a9j(a:j9 G h w D v (.tup cs)):∃vs,v=.tuple vs∧J4 (j9 G h w 5) vs cs:=by unfold D at a;unfold j9 at a;exact a
theorem a8C{f:Fn}{a b:List PV}(c:j9 G h w D v (.fn f a b)):∃vs us,v=.func f vs us∧J4 (j9 G h w 5) vs a∧J4 (j9 G h w 5) us b:=by unfold D at c;unfold j9 at c;exact c
theorem a1o{b:Bool}:j9 G h w n (.bool b) (.bool b):=by cases n<;>(unfold j9;rfl)
theorem a0J{k:IntKind}{i:Int}:j9 G h w n (.int k i) (.int k i):=by cases n<;>(unfold j9;rfl)
theorem a5E{s:ByteArray}:j9 G h w n (.string s) (.str s):=by cases n<;>(unfold j9;rfl)
theorem a4R:j9 G h w n (.slice none 0 0) .nils:=by cases n<;>(unfold j9;rfl)
theorem K6:j9 G h w n v .uu:=by cases n<;>(unfold j9;trivial)
theorem a0N{es:List PV}(hp:PR G.Z w v (.slc es)):j9 G h w n v (.slc es):=by cases n<;>(unfold j9;exact hp)
theorem a7M{ks vs:List PV}(hp:PR G.Z w v (.M6 ks vs)):j9 G h w n v (.M6 ks vs):=by cases n<;>(unfold j9;exact hp)
theorem a9p{ks vs:List PV}(a:j9 G h w n v (.M6 ks vs)):PR G.Z w v (.M6 ks vs):=by cases n<;>(unfold j9 at a;exact a)
theorem a4U(hp:PR G.Z w v (.fptr cs)):j9 G h w n v (.fptr cs):=by cases n<;>(unfold j9;exact hp)
theorem a8T(a:j9 G h w n v (.fptr cs)):PR G.Z w v (.fptr cs):=by cases n<;>(unfold j9 at a;exact a)
theorem a6Q{vs:Array Value}(hp:J4 (j9 G h w 5) vs cs):j9 G h w D (.agg vs) (.agg cs):=by unfold D;unfold j9;exact⟨vs,rfl,hp⟩
theorem b1H(d:Y1 c=true):(∀cs,c≠ .agg cs)∧(∀cs,c≠ .tup cs)∧∀f a b,c≠ .fn f a b:=by refine⟨fun cs e=>?_,fun cs e=>?_,fun f a b e=>?_⟩<;>(subst e;simp[Y1]at d)
theorem b8x(d:one c=true)(e:∀f a b,c≠ .fn f a b):Y1 c=true:=by cases c<;>first|exact d|exact absurd rfl (e _ _ _)
theorem one_cell{m:Nat}(g:one c=true)(d:j9 G h w n v c)(hm:0<m:=by decide):j9 G h w m v c:=by
 by_cases o:∃f a b,c=.fn f a b
 . obtain⟨f,a,b,rfl⟩:=o;simp only[one,E7]at g;obtain⟨m,rfl⟩:∃k,m=k+1:=⟨m-1,j4⟩
   cases n with
   |zero=>unfold j9 at d;exact d.elim
   |succ n=>
    unfold j9 at d⊢;obtain⟨vs,us,h1,q,r⟩:=d;refine⟨vs,us,h1,⟨q.1,fun i p hp=>?_⟩,⟨r.1,fun i p hp=>?_⟩⟩
    . obtain⟨u,j,l⟩:=q.2 i p hp;exact⟨u,j,l.cell (b1H (B5.1 g.1 p (D0 hp)))⟩
    . obtain⟨u,j,l⟩:=r.2 i p hp;exact⟨u,j,l.cell (b1H (B5.1 g.2 p (D0 hp)))⟩
 . exact d.cell (b1H (b8x g fun f a b e=>o ⟨f,a,b,e⟩))
theorem a1x(g:one c=true)(hp:PR G.Z w v c):j9 G h w D v c:=by
 cases c
 case slc es=>exact a0N hp
 case M6 ks vs=>unfold D;unfold j9;exact hp
 case fptr cs=>exact a4U hp
 case fn f a b=>
  obtain⟨n,hp⟩:=hp;cases a with
  |cons=>cases n<;>(unfold J1 at hp;exact hp.elim)
  |nil=>
   cases b with
   |cons=>cases n<;>(unfold J1 at hp;exact hp.elim)
   |nil=>
    have e:v=.func f #[] #[]:=(by cases n<;>(unfold J1 at hp;exact hp));unfold D;unfold j9;exact⟨_,_,e,⟨rfl,fun i c d=>by simp at d⟩,⟨rfl,fun i c d=>by simp at d⟩⟩
 all_goals
  obtain⟨n,hp⟩:=hp
  first
   |(cases n<;>(unfold J1 at hp;unfold D;unfold j9;exact hp))
   |(cases n<;>(unfold J1 at hp;exact hp.elim))
   |(simp[one,Y1]at g)
theorem b9R{op:BinOp}{x y:Operand}{a b:Value}{q:PV}(g:j9 G h w D a p)(hb:j9 G h w D b q)(c:a6H op (b0C P t) p q=some r):
 ∃v,(do eqGuard op t x y a b;Go.binOp op t a b:Sem Value).run P w=.ok v w∧j9 G h w D v r:=by
 cases p<;>cases q<;>(try (simp[a6H]at c;done))
 case int.int k i m j=>
  obtain rfl:=Z2 g;obtain rfl:=Z2 hb;have e:(eqGuard op t x y (.int k i) (.int m j)).run P w=.ok () w:=by unfold eqGuard;cases op<;>simp
  simp only[N6,e,P5];cases op<;>simp only[a6H]at c<;>simp only[Go.binOp]
  case shl=>
   split at c
   . cases c
   . cases c;rename_i d;refine⟨_,?_,a0J⟩;simp[Op.shift,d]
  case shr=>
   split at c
   . cases c
   . cases c;rename_i d;refine⟨_,?_,a0J⟩;simp[Op.shift,d]
  case quo|rem=>
   split at c
   . rename_i f;subst f;split at c
     . cases c
     . cases c;rename_i d;refine⟨_,?_,a0J⟩;simp[Op.intDiv,d]
   . cases c
  case eql|neq|lss|leq|gtr|geq=>
   split at c
   . rename_i f;subst f;cases c;refine⟨_,?_,a1o⟩;simp[Op.intCmp]
   . cases c
  all_goals
   split at c
   . rename_i f;subst f;cases c;refine⟨_,?_,a0J⟩;simp[Op.intArith,Op.intBits,a3G,orI,b6Y,b7e]
   . cases c
 case bool.bool i j=>
  obtain rfl:=a0X g;obtain rfl:=a0X hb;have e:(eqGuard op t x y (.bool i) (.bool j)).run P w=.ok () w:=by unfold eqGuard;cases op<;>simp
  simp only[N6,e,P5];simp only[a6H]at c;split at c
  . cases c
  . rename_i l;have hu:P.underlying t=some .bool:=by
     unfold b0C at l;split at l
     . assumption
     . simp at l
    have he:=run_equal_bool (P:=P) w t i j hu;cases op<;>simp at c<;>subst c<;>simp only[Go.binOp]<;>(refine⟨_,?_,a1o⟩;simp[he];try (first|rfl|(cases i<;>cases j<;>rfl)))
 case str.str i j=>
  obtain rfl:=a2O g;obtain rfl:=a2O hb;have e:(eqGuard op t x y (.string i) (.string j)).run P w=.ok () w:=by unfold eqGuard;cases op<;>simp
  simp only[N6,e,P5];cases op<;>simp only[a6H]at c<;>(try (cases c;done))<;>simp only[Go.binOp]
  case add=>
   split at c
   . cases c
   . cases c;rename_i d;exact⟨_,by simp only[Op.stringOp,d,if_false];rfl,a5E⟩
  all_goals (cases c;exact⟨_,by simp only[Op.stringOp];rfl,a1o⟩)
theorem d0m{op:UnOp}{a:Value}(d:j9 G h w D a p)(c:unP op p=some r):∃v,(Op.unary op a).run P w=.ok v w∧j9 G h w D v r:=by
 cases p<;>(try (simp[unP]at c;done))
 case bool b=>obtain rfl:=a0X d;cases op<;>simp[unP]at c;subst c;refine⟨_,?_,a1o⟩;simp[Op.unary]
 case int k n=>obtain rfl:=Z2 d;cases op<;>simp[unP]at c;subst c;refine⟨_,?_,a0J⟩;simp[Op.unary,Op.intArith]
def a7D(R:Nat→Value→PV→Prop)(w:World)(b o:Nat)(cs:List PV):Prop:=∀(j:Nat) c,cs[j]?=some c→∃u,w.cell? ⟨b,o+j,none⟩=some u∧R j u c
theorem c8I{sz:Nat}(hi:a1D P t=some true)(hs:I9 P t=some sz)(f:Nat→Value)(d:∀j,j<sz→w.cell? ⟨b,o+j,none⟩=some (f j)):
 (Instr.loadAt t (.pointer (some ⟨b,o,none⟩))).run P w=.ok (.agg ((List.range sz).map f).toArray) w:=by
 unfold a1D at hi;unfold I9 at hs;obtain⟨i,a,rfl⟩:=C9.1 hs;have c:=run_loadCells (P:=P) w ⟨b,o,none⟩ i.size f (fun j hj=>by rw[Addr.add_lit];exact d j hj);split at hi<;>rename_i hu
 . simp[Instr.loadAt,Instr.sureAddr,loadVar,isAgg,run_underlying hu,sizeOf,typeInfo,a,c]
 . simp[Instr.loadAt,Instr.sureAddr,loadVar,isAgg,run_underlying hu,sizeOf,typeInfo,a,c]
 . simp at hi
 . simp at hi
theorem d0h(hi:a1D P t=some false)(a:w.cell? ⟨b,o,none⟩=some v):
 (Instr.loadAt t (.pointer (some ⟨b,o,none⟩))).run P w=.ok v w:=by
 unfold a1D at hi;split at hi
 . simp at hi
 . simp at hi
 . rename_i d h1 c hu;have:(isAgg t).run P w=.ok false w:=by
    unfold isAgg;simp only[N6,run_underlying hu,P5];cases d<;>first|rfl|exact absurd rfl (h1 _)|exact absurd rfl (c _ _)
   simp[Instr.loadAt,Instr.sureAddr,loadVar,this,run_load,a]
 . simp at hi
theorem a7d{R:Nat→Value→PV→Prop}{agg:Bool}{sz off:Nat}(hi:a1D P t=some agg)(hs:I9 P t=some sz)(f:a7D R w b o cs)(a:a2y agg sz cs off=some r):
 ∃v,(Instr.loadAt t (.pointer (some ⟨b,o+off,none⟩))).run P w=.ok v w∧(agg=false→R off v r∧cs[off]?=some r)∧(agg=true→∃vs,v=.agg vs∧r=.agg ((cs.drop off).take sz)∧(vs.size=sz∧∀(j:Nat) c,((cs.drop off).take sz)[j]?=some c→∃u,vs[j]?=some u∧R (off+j) u c)∧((cs.drop off).take sz).length=sz):=by
 cases agg with
 |false=>
  simp only[a2y,a4c,if_false]at a;obtain⟨u,h1,d⟩:=f off r a;exact⟨u,d0h hi h1,fun _=>⟨d,a⟩,fun e=>by cases e⟩
 |true=>
  simp only[a2y,if_true]at a;split at a
  . rename_i hle;cases a;have hlen:((cs.drop off).take sz).length=sz:=F6;have g:∀j,j<sz→∃u,w.cell? ⟨b,o+off+j,none⟩=some u∧∃c,((cs.drop off).take sz)[j]?=some c∧R (off+j) u c:=fun j hj=>by
     obtain⟨c,h⟩:∃c,cs[off+j]?=some c:=⟨cs[off+j],l9 j4⟩
     obtain⟨u,h1,d⟩:=f (off+j) c h;refine⟨u,by rw[Nat.add_assoc];exact h1,c,?_,d⟩;rw[a0H,if_pos hj,a2U];exact h
    have hr:=c8I (P:=P) (w:=w) (t:=t) (b:=b) (o:=o+off) hi hs (fun j=>(w.cell? ⟨b,o+off+j,none⟩).getD undef) (fun j hj=>by obtain⟨u,h1,_⟩:=g j hj;rw[h1];rfl);refine⟨_,hr,fun e=>absurd e k8,fun _=>⟨_,rfl,rfl,⟨k8,fun j c hj=>?_⟩,hlen⟩⟩;have i:j<sz:=(by grind);obtain⟨u,h1,c',d,k⟩:=g j i;rw[d]at hj;cases hj;refine⟨u,?_,k⟩;simp[i,h1]
  . cases a
end
end
section
variable{t e:TypeId}{v:Value}{p q:PV}{z l f s b o cap u:Nat}{n:Int}{lo hi mx:Option Value}{plo phi pmx:Option PV}{k:IntKind}
section
variable{P:Program}{B:Nat}{Z0:Nat→Prop}{G:Gh}{h:Heap}{w:World}
theorem a1Z(hs:I9 P t=some s):∃i,P.info? t=some i∧i.size=s:=C9.1 hs
theorem b7G{fd:Field}(hs:a8O P t f=some fd):∃a,P.underlying t=some (.struct a)∧a[f]?=some fd:=by
 unfold a8O at hs
 grind
theorem b4c(hs:a4q P t=some e):P.underlying t=some (.slice e):=by
 unfold a4q at hs
 grind
theorem b3S{off:Nat}(a:j9 G h w D v p)(d:a4s off p=some q):∃b o,v=.pointer (some ⟨b,o,none⟩)∧j9 G h w D (.pointer (some ⟨b,o+off,none⟩)) q:=by
 cases p<;>(try (simp[a4s]at d;done))
 case ptr k g o=>
  simp only[a4s,s5]at d;subst d;unfold D at a⊢;unfold j9 at a⊢;obtain⟨b,rfl,gn,ob,h1,n,r⟩:=a;exact⟨b,o,rfl,b,rfl,gn,ob,h1,n,r⟩
 case eptr k g F s i j=>
  simp only[a4s,s5]at d;subst d;unfold D at a⊢;unfold j9 at a⊢;obtain⟨b,f,rfl,gn,ob,h1,n,r⟩:=a;refine⟨b,f,rfl,b,f+off,rfl,gn,ob,h1,n,fun e sz ver fr es t=>?_⟩;obtain⟨u,x⟩:=r e sz ver fr es t;refine⟨u,fun y=>?_⟩;obtain⟨z,A,B⟩:=x y;exact⟨z,fun C=>by rw[A C];omega,B⟩
 case nptr k g ver s i j m l=>
  simp only[a4s,s5]at d;subst d;unfold D at a⊢;unfold j9 at a⊢;obtain⟨b,f,rfl,gn,ob,h1,n,r⟩:=a;refine⟨b,f,rfl,b,f+off,rfl,gn,ob,h1,n,fun e sz vr fr es t=>?_⟩;obtain⟨u,x⟩:=r e sz vr fr es t;refine⟨u,fun y=>?_⟩;obtain⟨ns,E,z,A,B⟩:=x y;exact⟨ns,E,z,fun C=>by rw[A C];omega,B⟩
 case fptr cs=>
  simp only[a4s]at d;split at d
  . cases d;unfold D at a⊢;unfold j9 at a⊢;obtain⟨b,o,rfl,h1,n⟩:=PR.a3f.1 a;refine⟨b,o,rfl,PR.a3f.2 ⟨b,o+off,rfl,h1,fun j c E=>?_⟩⟩
    grind
  . cases d
theorem c6y{s:TypeId}{fd:Field}(h1:a8O P s f=some fd)(a:I9 P fd.type=some z)(c:z≠0):
 (Instr.fieldAt s (.pointer (some ⟨b,o,none⟩)) f).run P w=.ok (.pointer (some ⟨b,o+fd.offset,none⟩)) w:=by
 obtain⟨e,hu,d⟩:=b7G h1;obtain⟨i,hi,rfl⟩:=a1Z a;simp[Instr.fieldAt,run_underlying hu,d,Instr.sureAddr,fieldPlace,sizeOf,typeInfo,hi,c,Addr.add_lit]
theorem a9a{c:Nat}(hu:P.underlying t=some (.slice e))(a:I9 P e=some z)(h0:0≤n)(d:n<l):
 (Instr.indexAt t (.slice (some ⟨b,f,none⟩) l c) (.int k n)).run P w=.ok (.pointer (some ⟨b,f+n.toNat*z,none⟩)) w:=by
 obtain⟨i,hi,rfl⟩:=a1Z a;simp[Instr.indexAt,run_underlying hu,asIntOf,sizeOf,typeInfo,hi,h0,d,Addr.add_lit]
theorem c8S{m:Nat}(hu:P.underlying t=some (.array m e))(a:I9 P e=some z)(h0:0≤n)(c:n<m):
 (Instr.indexAt t (.pointer (some ⟨b,f,none⟩)) (.int k n)).run P w=.ok (.pointer (some ⟨b,f+n.toNat*z,none⟩)) w:=by
 obtain⟨i,hi,rfl⟩:=a1Z a;simp[Instr.indexAt,run_underlying hu,asIntOf,Instr.sureAddr,sizeOf,typeInfo,hi,h0,c,Addr.add_lit]
theorem c7X(hu:P.underlying t=some (.slice e))(H:I9 P e=some z)(m:j9 G h w D v p)(d:a9W z p n=some q):
 ∃u,(Instr.indexAt t v (.int k n)).run P w=.ok u w∧j9 G h w D u q:=by
 unfold a9W at d;split at d
 . rename_i h0;cases p<;>(try (simp at d;done))
   case slc es=>
    simp only[]at d;split at d
    . rename_i X he;split at d
      . rename_i i;cases d;have hp:=a3n m;obtain⟨a,c,sz,rfl,Q,x,y,r⟩:=PR.U1.1 hp;obtain⟨A,b,o,rfl,B,R⟩:=r _ _ he;have T:n<es.length:=(by grind);refine⟨_,a9a hu H h0 T,?_⟩;refine a4U (PR.a3f.2 ⟨b,_,rfl,B,fun j c S=>?_⟩);obtain⟨I,u,C,J⟩:=R j c S;refine⟨I,u,?_,J⟩;rw[Nat.add_assoc,show z=sz by omega];exact C
      . cases d
    . cases d
   case own E g U s o l=>
    simp only[]at d;split at d
    . rename_i i;obtain⟨i,rfl⟩:=i;cases d;unfold D at m;unfold j9 at m;obtain⟨a,c,rfl,h1,Q,x,gn,ob,y,r,A⟩:=m;rcases x with⟨rfl,rfl⟩|⟨b,f,rfl⟩
      . omega
      refine⟨_,a9a hu H h0 i,?_⟩;unfold D;unfold j9;refine⟨b,_,rfl,gn,ob,y,r,fun K sz ver fr es L=>?_⟩;obtain⟨M,B⟩:=A K sz ver fr es L;refine⟨M,fun N=>?_⟩;obtain⟨R,I,C⟩:=B N;by_cases F:G.R (root E)
      . grind
      . obtain⟨O,_⟩:=C F;cases O
    . cases d
   case osl E g U s o l=>
    simp only[]at d;split at d
    . rename_i i;obtain⟨i,rfl⟩:=i;cases d;unfold D at m;unfold j9 at m;obtain⟨a,c,rfl,h1,Q,x,gn,ob,y,r,A⟩:=m;rcases x with⟨rfl,rfl⟩|⟨b,f,rfl⟩
      . omega
      refine⟨_,a9a hu H h0 i,?_⟩;unfold D;unfold j9;refine⟨b,_,rfl,gn,ob,y,r,fun K sz ver fr es L=>?_⟩;obtain⟨M,B⟩:=A K sz ver fr es L;refine⟨M,fun N=>?_⟩;obtain⟨R,I,C⟩:=B N;by_cases F:G.R (root E)
      . grind
      . exact absurd (C F) k8
    . cases d
   case nown E g ver V W o l=>
    simp only[]at d;split at d
    . rename_i i;cases d;unfold D at m;unfold j9 at m;obtain⟨a,c,rfl,h1,Q,x,gn,ob,y,r,A⟩:=m;rcases x with⟨rfl,rfl⟩|⟨b,f,rfl⟩
      . omega
      refine⟨_,a9a hu H h0 i,?_⟩;unfold D;unfold j9;refine⟨b,_,rfl,gn,ob,y,r,fun K sz vr fr es L=>?_⟩;obtain⟨M,B⟩:=A K sz vr fr es L;refine⟨M,fun N=>?_⟩;obtain⟨ns,S,R,I,C⟩:=B N;by_cases F:G.R (nest E V W)
      . obtain⟨Y,O,J⟩:=I F;cases O;refine⟨ns,S,rfl,fun Z=>?_,j4⟩;rcases J with J|J
        . omega
        . grind
      . obtain⟨O,_⟩:=C F;cases O
    . cases d
   case vsl E g o s l=>
    simp only[]at d;split at d
    . rename_i i;obtain⟨i,rfl⟩:=i;cases d;unfold D at m;unfold j9 at m;obtain⟨b,f,c,rfl,h1,Q,x,gn,ob,y,r,A⟩:=m;refine⟨_,a9a hu H h0 i,?_⟩;unfold D;unfold j9;exact⟨b,by rw[x.resolve_left j4],gn,ob,y,r,A⟩
    . cases d
 . cases d
theorem c0p{ty:TypeId}{n:Nat}{st:Bool}(hu:if st then P.underlying t=some .string else∃e,P.underlying t=some (.slice e))(d:j9 G h w D v p)(g:b0W st p=some n):
 (Builtin.len_ #[t] ty #[v]).run P w=.ok (.int .i64 n) w:=by
 unfold b0W at g;split at g
 . cases g
 rename_i i;cases p<;>(try (simp at g;done))<;>simp only[s5]at g<;>subst g
 case str s=>
  obtain rfl:=a2O d;obtain rfl:st=true:=by simpa[isStr]using i
  simp at hu;simp[Builtin.len_,run_underlying hu,goInt]
 all_goals
  obtain rfl:st=false:=by simpa[isStr]using i
  simp at hu;obtain⟨e,he⟩:=hu
 case slc es=>
  have hp:=a3n d;obtain⟨a,c,sz,rfl,_⟩:=PR.U1.1 hp;simp[Builtin.len_,run_underlying he,goInt]
 case nils=>obtain rfl:=a0k d;simp[Builtin.len_,run_underlying he,goInt]
 case ne=>unfold D at d;unfold j9 at d;obtain⟨b,o,rfl⟩:=d;simp[Builtin.len_,run_underlying he,goInt]
 case own=>unfold D at d;unfold j9 at d;obtain⟨a,c,rfl,_⟩:=d;simp[Builtin.len_,run_underlying he,goInt]
 case vsl=>unfold D at d;unfold j9 at d;obtain⟨b,f,c,rfl,_⟩:=d;simp[Builtin.len_,run_underlying he,goInt]
 case nown=>unfold D at d;unfold j9 at d;obtain⟨a,c,rfl,_⟩:=d;simp[Builtin.len_,run_underlying he,goInt]
 case osl=>unfold D at d;unfold j9 at d;obtain⟨a,c,rfl,_⟩:=d;simp[Builtin.len_,run_underlying he,goInt]
theorem b2n(a:asInt p=some n):∃k,p=.int k n:=by cases p<;>simp[asInt]at a;subst a;exact⟨_,rfl⟩
def OV(G:Gh)(h:Heap)(w:World):Option Value→Option PV→Prop
 |none,none=>True
 |some v,some p=>j9 G h w D v p
 |_,_=>False
theorem b3e{isS:Bool}{n:Nat}(o:n≤cap)(h1:OV G h w lo plo)(e:OV G h w hi phi)(f:OV G h w mx pmx)(b:sliceB n plo phi pmx=some (l,u)):
 (Instr.sliceBounds isS n cap lo hi mx).run P w=.ok (l,u,if pmx.isSome then u else cap) w∧l≤u∧u≤n:=by
 unfold sliceB at b;split at b
 . rename_i c i g el;split at b
   . rename_i hb;obtain⟨r,t,z⟩:=hb;have j:∀(code:BoundsCode),(match lo with|some v=>Instr.sliceBound v c.toNat code|none=>pure 0:Sem Nat).run P w=.ok i.toNat w:=fun code=>by
      cases plo with
      |none=>cases lo with
       |none=>simp at el;subst el;rfl
       |some v=>exact h1.elim
      |some p=>cases lo with
       |none=>exact h1.elim
       |some v=>
        obtain⟨k,rfl⟩:=b2n el;obtain rfl:=Z2 h1;have:¬(max c 0<i):=j4;simp[Instr.sliceBound,asIntOf,r,this]
        try omega
     have m:∀(y:Nat) (code:BoundsCode),n≤y∨c≤y→(match hi with|some v=>Instr.sliceBound v y code|none=>pure n:Sem Nat).run P w=.ok c.toNat w:=fun y code A=>by
      cases phi with
      |none=>cases hi with
       |none=>simp at g;subst g;simp
       |some v=>exact e.elim
      |some p=>cases hi with
       |none=>exact e.elim
       |some v=>
        obtain⟨k,rfl⟩:=b2n g;obtain rfl:=Z2 e;have c1:0≤c:=j4;have c2:c≤(y:Int):=j4;simp[Instr.sliceBound,asIntOf,c1,c2]
     cases pmx with
     |none=>
      simp only[s5,s9]at b;obtain⟨rfl,rfl⟩:=b;cases mx with
      |some v=>exact f.elim
      |none=>
       refine⟨?_,j4,j4⟩;have d:=m cap (if isS then .sliceAcap else .sliceAlen) (.inl o);have a:=j .sliceB;unfold Instr.sliceBounds;simp only[N6,a1H,P5];cases hi with
       |none=>simp at d;simp[←d];cases lo with
        |none=>simp at a;simp[←a]
        |some v=>simp at a;simp[d,a]
       |some x=>simp at d;simp[d];cases lo with
        |none=>simp at a;simp[←a]
        |some v=>simp at a;simp[a]
     |some p=>
      simp only at b;split at b
      . rename_i hm;obtain⟨m1,m2⟩:=hm;simp only[s5,s9]at b;obtain⟨rfl,rfl⟩:=b;cases mx with
        |none=>exact f.elim
        |some v=>
         obtain⟨k,rfl⟩:=b2n m2;obtain rfl:=Z2 f;have c1:0≤c:=j4;have c2:c≤(cap:Int):=j4;refine⟨?_,j4,j4⟩;have d:=m c.toNat .slice3B (.inr j4);have a:=j .slice3C;cases phi with
         |none=>simp at m1
         |some q=>cases hi with
          |none=>exact e.elim
          |some x=>
           unfold Instr.sliceBounds;simp at d;have s:∀code,(Instr.sliceBound (.int k c) cap code).run P w=.ok c.toNat w:=fun code=>(by simp[Instr.sliceBound,asIntOf,c1,c2]);simp[s,d];cases lo with
           |none=>simp at a;simp[←a]
           |some v=>simp at a;simp[a]
      . cases b
   . cases b
 . cases b
theorem a6E{n:Nat}{a:Option Addr}(hu:P.underlying t=some (.slice e))(b:I9 P e=some z)(c:n≤cap)
 (h1:OV G h w lo plo) (d:OV G h w hi phi) (f:OV G h w mx pmx) (g:sliceB n plo phi pmx=some (l,u)):
 (Instr.sliceAt t (.slice a n cap) lo hi mx).run P w=.ok (.slice (if(if pmx.isSome then u else cap)=l then a else a.map (·.add (l*z))) (u-l) ((if pmx.isSome then u else cap)-l)) w∧l≤u∧u≤n:=by
 obtain⟨i,j,rfl⟩:=a1Z b;obtain⟨hb,k,m⟩:=b3e (P:=P) (isS:=true) c h1 d f g;refine⟨?_,k,m⟩;simp[Instr.sliceAt,Instr.slice,run_underlying hu,hb,sizeOf,typeInfo,j]
theorem b3V{k g e:Nat}(b:j9 G h w D v (.own k g e s o l)):j9 G h w D v (.osl k g e s o l):=by unfold D at b⊢;unfold j9 at b⊢;obtain⟨a,c,i,j,m,n,gn,ob,p,q,r⟩:=b;refine⟨a,c,i,j,m,n,gn,ob,p,q,fun t sz ver fr es u=>?_⟩;obtain⟨x,y⟩:=r t sz ver fr es u;refine⟨x,fun z=>?_⟩;obtain⟨A,B,C⟩:=y z;refine⟨A,fun d=>?_,fun d=>(C d).1⟩;obtain⟨f,E,F,_⟩:=B d;exact⟨f,E,F⟩
theorem b5T{a:Option Addr}{k g j n c:Nat}(e:j9 G h w D (.slice a n c) (.osl k g j s o n))(H:l≤u)(I:u≤n)(h1:u≤cap)(J:cap≤c):
 j9 G h w D (.slice (if cap=l then a else a.map (·.add (l*s))) (u-l) (cap-l)) (.osl k g j s (o+l) (u-l)):=by
 unfold D at e⊢;unfold j9 at e⊢;obtain⟨K,c',p,L,M,q,gn,ob,r,t,v⟩:=e;cases p;refine⟨_,_,rfl,j4,j4,?_,gn,ob,r,t,fun x sz ver fr es y=>?_⟩
 . rcases q with⟨rfl,rfl⟩|⟨b,f,rfl⟩
   . exact .inl ⟨k8,j4⟩
   . refine .inr ?_;split
     . exact⟨b,f,rfl⟩
     . exact⟨b,f+l*s,by simp[Addr.add_lit]⟩
 . obtain⟨z,A⟩:=v x sz ver fr es y;refine⟨z,fun B=>?_⟩;obtain⟨N,C,E⟩:=A B;refine⟨j4,fun i=>?_,fun i=>?_⟩
   . obtain⟨f,rfl,d⟩:=C i;by_cases m:cap=l
     . exact⟨f,by rw[if_pos m],.inl j4⟩
     . refine⟨f+l*s,by rw[if_neg m];simp[Addr.add_lit],.inr fun F=>?_⟩;rcases d with d|d
       . omega
       . rw[d F,O5]
   . rw[E i];simp
theorem d1T(hu:P.underlying t=some (.slice e))(C:I9 P e=some z)(k:j9 G h w D v p)
 (h1:OV G h w lo plo) (E:OV G h w hi phi) (F:OV G h w mx pmx) (d:a7b false z p plo phi pmx=some q):
 ∃u,(Instr.sliceAt t v lo hi mx).run P w=.ok u w∧j9 G h w D u q:=by
 unfold a7b at d;split at d
 . cases d
 rename_i ab;cases p<;>(try (simp at d;done))<;>simp only[]at d
 case str s=>simp[isStr]at ab
 case slc es=>
  have hp:=a3n k;obtain⟨a,c,sz,rfl,m,L,r,ac⟩:=PR.U1.1 hp;split at d
  . rename_i l u hb;split at d
    . rename_i N;cases d;obtain⟨hr,y,A⟩:=a6E (P:=P) (a:=a) hu C m h1 E F hb;refine⟨_,hr,a0N ?_⟩;have hlen:((es.drop l).take (u-l)).length=u-l:=F6;refine PR.U1.2 ⟨_,_,sz,by rw[hlen],?_,?_,?_,fun i V he=>?_⟩
      . rw[hlen];split<;>omega
      . split<;>omega
      . intro ao;cases a with
        |none=>have:=r rfl;split<;>omega
        |some a=>
         by_cases ad:(if pmx.isSome then u else c)=l
         . rw[ad];omega
         . grind
      . have ae:i<u-l:=(by rw[←hlen];exact(C0.1 he).1);rw[a0H,if_pos ae,a2U]at he;obtain⟨B,b,o,rfl,O,W⟩:=ac _ _ he;refine⟨B,b,o+l*z,?_,O,fun j c' Q=>?_⟩
        . have:¬((if pmx.isSome then u else c)=l):=(by split<;>omega);rw[if_neg this];simp[Addr.add_lit]
        . obtain⟨R,af,X,K⟩:=W j c' Q;refine⟨R,af,?_,K⟩;have:l*z=l*sz:=by
           rcases N with rfl|N
           . simp
           . have:=B5.1 N V (D0 he);have:(l6 V).length=z:=(by simpa using this);rw[←this,B]
          rw[this,Nat.add_assoc,←Nat.add_assoc (l*sz),←O5];exact X
    . cases d
  . cases d
 case own Y g ag s o n=>
  split at d
  . rename_i H;split at d
    . rename_i l u hb;split at d
      . rename_i Q;obtain⟨_,rfl,rfl,rfl,rfl⟩:=Q;cases d;unfold D at k;unfold j9 at k;obtain⟨a,c,rfl,m,L,r,gn,ob,I,J,B⟩:=k;obtain⟨hr,y,A⟩:=a6E (P:=P) (a:=a) hu C m h1 E F hb;simp only[H,if_true,Nat.sub_zero]at hr;have ah:(if u=0 then a else a.map (·.add (0*z)))=a:=by
         by_cases Z:u=0
         . rw[if_pos Z]
         . rw[if_neg Z];rcases r with⟨rfl,_⟩|⟨b,f,rfl⟩
           . rfl
           . simp[Addr.add_lit]
        rw[ah]at hr;refine⟨_,hr,?_⟩;unfold D;unfold j9;refine⟨a,u,rfl,p7 _,j4,?_,gn,ob,I,J,fun S sz ver fr es T=>?_⟩
        . grind
        . grind
      . split at d
        . rename_i M;subst M;cases d;have U:=b3V k;unfold D at k;unfold j9 at k;obtain⟨a,c,rfl,m,L,r,gn,ob,I,J,B⟩:=k;obtain⟨hr,y,A⟩:=a6E (P:=P) (a:=a) hu C m h1 E F hb;refine⟨_,hr,?_⟩;exact b5T U y A (by simp[H]) (by simp[H];omega)
        . cases d
    . cases d
  . rename_i H;obtain rfl:pmx=none:=(by cases pmx<;>simp at H;rfl);split at d
    . rename_i l u hb;split at d
      . rename_i M;subst M;cases d;unfold D at k;unfold j9 at k;obtain⟨a,c,rfl,m,L,r,gn,ob,I,J,B⟩:=k;obtain⟨hr,y,A⟩:=a6E (P:=P) (a:=a) hu C m h1 E F hb;refine⟨_,hr,?_⟩;simp only[Option.isSome_none,a4c,if_false];unfold D;unfold j9;refine⟨_,_,rfl,j4,j4,?_,gn,ob,I,J,fun S sz ver fr es T=>?_⟩
        . rcases r with⟨rfl,rfl⟩|⟨b,f,rfl⟩
          . exact .inl ⟨k8,j4⟩
          . refine .inr ?_;split
            . exact⟨b,f,rfl⟩
            . exact⟨b,f+l*z,by simp[Addr.add_lit]⟩
        . obtain⟨ai,O⟩:=B S sz ver fr es T;refine⟨ai,fun aj=>?_⟩;obtain⟨W,R,X⟩:=O aj;refine⟨j4,fun aa=>?_,fun aa=>?_⟩
          . obtain⟨f,rfl,K,ap,aq⟩:=R aa;by_cases ak:c=l
            . grind
            . refine⟨f+l*z,by rw[if_neg ak];simp[Addr.add_lit],.inr fun al=>?_,j4,j4⟩;rcases K with K|K
              . omega
              . rw[K al,O5]
          . grind
      . cases d
    . cases d
 case osl Y g ag s o n=>
  split at d
  . rename_i l u hb;split at d
    . rename_i M;subst M;cases d;have U:=k;unfold D at k;unfold j9 at k;obtain⟨a,c,rfl,m,L,r,gn,ob,I,J,B⟩:=k;obtain⟨hr,y,A⟩:=a6E (P:=P) (a:=a) hu C m h1 E F hb;refine⟨_,hr,?_⟩;exact b5T U y A (by split<;>omega) (by split<;>omega)
    . cases d
  . cases d
 case nown Y g ver i j o n=>
  split at d
  . cases d
  . rename_i H;obtain rfl:pmx=none:=(by cases pmx<;>simp at H;rfl);split at d
    . rename_i l u hb;split at d
      . rename_i am;subst am;cases d;unfold D at k;unfold j9 at k;obtain⟨a,c,rfl,m,L,r,gn,ob,I,J,B⟩:=k;obtain⟨hr,y,A⟩:=a6E (P:=P) (a:=a) hu C m h1 E F hb;refine⟨_,hr,?_⟩;simp only[Option.isSome_none,a4c,if_false];have an:(if c=0 then a else a.map (·.add (0*z)))=a:=by
         split
         . rfl
         . rcases r with⟨rfl,rfl⟩|⟨b,f,rfl⟩
           . rfl
           . simp[Addr.add_lit]
        rw[an];unfold D;unfold j9;refine⟨a,c-0,rfl,j4,j4,?_,gn,ob,I,J,fun S sz vr fr es T=>?_⟩
        . rw[Nat.sub_zero];exact r
        . grind
      . cases d
    . cases d
 case nils=>
  split at d
  . rename_i x hb;obtain⟨l,u⟩:=x;cases d;obtain rfl:=a0k k;obtain⟨hr,y,A⟩:=a6E (P:=P) (a:=none) hu C (p7 0) h1 E F hb;refine⟨_,hr,?_⟩;obtain rfl:u=0:=j4;obtain rfl:l=0:=j4;simp;exact a4R
  . cases d
theorem c2m(hu:P.underlying t=some .string)(c:j9 G h w D v p)
 (h1:OV G h w lo plo) (d:OV G h w hi phi) (b:OV G h w mx pmx) (a:a7b true 0 p plo phi pmx=some q):
 ∃u,(Instr.sliceAt t v lo hi mx).run P w=.ok u w∧j9 G h w D u q:=by
 unfold a7b at a;split at a
 . cases a
 rename_i e;cases p<;>(try (simp[isStr]at e;done))<;>simp only[]at a
 case str s=>
  split at a
  . cases a
  . rename_i f;obtain rfl:pmx=none:=(by cases pmx<;>simp at f;rfl);obtain rfl:mx=none:=(by cases mx<;>simp[OV]at b;rfl);split at a
    . rename_i l u hb;cases a;obtain rfl:=a2O c;obtain⟨hb,g,i⟩:=b3e (P:=P) (isS:=false) (p7 s.size) h1 d b hb;refine⟨_,?_,a5E⟩;simp[Instr.sliceAt,Instr.slice,run_underlying hu,hb]
    . cases a
end
end
section
variable{i sz k g:Nat}{es:List PV}
theorem P6{h:Heap}{hide:List Nat}{ob:Ob}(a:l7 h hide k=(g,ob))(hd:ob≠ .dead):h[k]?=some (g,ob):=by
 unfold l7 at a;split at a
 . grind
 . grind
theorem c0q(k g ver i:Nat):∀(cs:List PV) (j t:Nat),(a4y k g ver i j cs)[t]?=(cs[t]?).map (ldC k g ver i (j+t))
 | [],j,t=>by simp[a4y]
 |c::cs,j,0=>by simp[a4y]
 |c::cs,j,t+1=>by simp[a4y,c0q k g ver i cs (j+1) t];rw[show j+(t+1)=j+1+t by omega]
theorem b8v(k g ver i:Nat):∀(cs:List PV) (j:Nat),(a4y k g ver i j cs).length=cs.length
 | [],j=>by simp[a4y]
 |c::cs,j=>by simp[a4y,b8v k g ver i cs (j+1)]
section
variable{P:Program}{B:Nat}{Z0:Nat→Prop}{G:Gh}{h:Heap}{w:World}
theorem a1c{b:Nat}{us:Array Value}{T:TypeId}(hb:w.heap[b]?=some (.cells us T (0,0))):w.cell? ⟨b,i,none⟩=us[i]?:=by unfold World.cell?;simp only[hb];rfl
theorem b6N{ver j:Nat}{fr:Bool}{u:Value}{c:PV}(b:h[k]?=some (g,.arr sz ver fr es))(d:cellAt es i j=some c)(a:G9 G h w k i j u c):j9 G h w D u (ldC k g ver i j c)∧one (ldC k g ver i j c)=true:=by
 cases c
 case uslc ns=>
  unfold G9 O2 at a;refine⟨?_,rfl⟩;simp only[ldC];unfold D;unfold j9;by_cases e:G.R (nest k i j)
  . grind
  . grind
 all_goals (unfold G9 at a;exact⟨by simpa[ldC]using a.2,by simpa[ldC]using a.1⟩)
theorem a9o{R:Nat→Value→PV→Prop}{vs:Array Value}{cs:List PV}{o:Nat}(d:cs.length=sz)(a:vs.size=sz∧∀(j:Nat) c,cs[j]?=some c→∃u,vs[j]?=some u∧R (o+j) u c)
 (hr:∀j u c,cs[j]?=some c→R (o+j) u c→one c=true∧j9 G h w D u c):j9 G h w D (.agg vs) (.agg cs):=by
 refine a6Q ⟨by rw[a.1,d],fun i c b=>?_⟩;obtain⟨u,h1,e⟩:=a.2 i c b;obtain⟨f,g⟩:=hr i u c b e;exact⟨u,h1,one_cell f g⟩
theorem a3t(hr:s6 B Z0 G h w){ver:Nat}{fr:Bool}{e:PV}(b:h[k]?=some (g,.arr sz ver fr es))(he:es[i]?=some e):
 G.R (root k)∧∃us T,w.heap[G.β (root k)]?=some (.cells us T (0,0))∧us.size=G.γ (root k)*sz∧(l6 e).length=sz∧∀(j:Nat) c,(l6 e)[j]?=some c→∃u,us[i*sz+j]?=some u∧G9 G h w k i j u c:=by
 have a:=hr.ob k g _ b;unfold F7 at a;obtain⟨_,_,_,l,d⟩:=a;by_cases f:G.R (root k)
 . grind
 . rw[d f]at he;simp at he
theorem a4t{j:Nat}{e c:PV}(he:es[i]?=some e)(a:(l6 e)[j]?=some c):cellAt es i j=some c:=by simp[cellAt,he,a]
theorem a9C(hr:s6 B Z0 G h w){hide:List Nat}{t:TypeId}{agg:Bool}{v:Value}{p r:PV}(hi:a1D P t=some agg)(hs:I9 P t=some sz)(n:j9 G h w D v p)(a:a0o (l7 h hide) agg sz p=some r):
 ∃u,(Instr.loadAt t v).run P w=.ok u w∧j9 G h w D u r:=by
 cases p<;>(try (simp[a0o]at a;done))
 case ptr k g o=>
  simp only[a0o]at a;split at a
  . rename_i aa cs K;split at a
    . rename_i L;subst L;have q:=P6 K k8;unfold D at n;unfold j9 at n;obtain⟨b,rfl,gn,ob,h1,H,d⟩:=n;rw[q]at h1;cases h1;obtain rfl:=d rfl cs rfl;have ab:=hr.ob k _ _ q;unfold F7 at ab;obtain⟨ac,us,T,z,I⟩:=ab;have A:a7D (fun _ v c=>one c=true∧j9 G h w D v c) w (G.β (root k)) 0 cs:=fun j c y=>by
       obtain⟨u,C,M⟩:=I.2 j c y;exact⟨u,by rw[a1c z,V5];exact C,M⟩
      obtain⟨u,C,M,N⟩:=a7d (P:=P) hi hs A a;rw[V5]at C;refine⟨u,C,?_⟩;cases agg with
      |false=>exact(M rfl).1.2
      |true=>
       obtain⟨vs,rfl,rfl,E,F⟩:=N rfl;exact a9o (o:=o) (R:=fun _ v c=>one c=true∧j9 G h w D v c) F E fun _ _ _ _ x=>x
    . cases a
  . cases a
 case eptr k g au s i j=>
  simp only[a0o]at a;split at a
  . rename_i aa s' ver fr es K;split at a
    . rename_i L;obtain⟨rfl,aj,rfl⟩:=L;split at a
      . rename_i e he;have q:=P6 K k8;unfold D at n;unfold j9 at n;obtain⟨b,f,rfl,gn,ob,h1,H,d⟩:=n;rw[q]at h1;cases h1;obtain⟨_,d⟩:=d rfl _ _ _ _ rfl;obtain⟨rfl,z,_⟩:=d aj;have S:=z rfl;obtain⟨ac,us,T,I,C,M,N⟩:=a3t hr q he;have A:a7D (fun j v c=>G9 G h w k i j v c) w (G.β (root k)) (i*s') (l6 e):=fun j c y=>by
         obtain⟨u,E,F⟩:=N j c y;exact⟨u,by rw[a1c I];exact E,F⟩
        split at a
        . rename_i cs W;split at a
          . rename_i ak;subst ak;cases a;obtain⟨u,E,_,U⟩:=a7d (P:=P) hi hs A W;obtain⟨vs,rfl,X,O,Q⟩:=U rfl;cases X;refine⟨_,by rw[S];exact E,?_⟩;refine a9o (o:=j) (sz:=sz) (R:=fun av u c=>j9 G h w D u c∧one c=true) ?_ ⟨O.1,fun t c y=>?_⟩ fun _ _ _ _ x=>⟨x.2,x.1⟩
            . rw[b8v];exact Q
            . rw[c0q]at y;obtain⟨c0,J,rfl⟩:=C9.1 y;obtain⟨u,ad,ae⟩:=O.2 t c0 J;refine⟨u,ad,?_⟩;rw[a0H]at J;split at J
              . rw[a2U]at J;exact b6N q (a4t he J) ae
              . cases J
          . cases a
        . rename_i c al W;cases a;obtain⟨u,E,F,U⟩:=a7d (P:=P) hi hs A W;cases agg with
          |true=>obtain⟨vs,_,X,_⟩:=U rfl;exact absurd X (al _)
          |false=>
           obtain⟨O,Q⟩:=F rfl;exact⟨u,by rw[S];exact E,(b6N q (a4t he Q) O).1⟩
        . cases a
      . cases a
    . cases a
  . cases a
 case nptr k g ver s i j m l=>
  simp only[a0o]at a;split at a
  . rename_i aa aw ver' fr es K;split at a
    . rename_i L;obtain⟨rfl,rfl⟩:=L;split at a
      . rename_i e he;split at a
        . rename_i ns af;split at a
          . rename_i x am;split at a
            . rename_i ag;have q:=P6 K k8;unfold D at n;unfold j9 at n;obtain⟨b,f,rfl,gn,ob,h1,H,d⟩:=n;rw[q]at h1;cases h1;obtain⟨_,d⟩:=d rfl _ _ _ _ rfl;obtain⟨ax,ah,rfl,z,ay⟩:=d rfl;rw[a4t he af]at ah;cases ah;obtain⟨ac,us,T,I,C,M,N⟩:=a3t hr q he;obtain⟨u0,E,F⟩:=N j _ af;unfold G9 O2 at F;have an:G.R (nest k i j):=(by grind);obtain⟨az,T2,aA,aB,rfl,aC,U,O,aD,Q,ad,ae,ao⟩:=F.1 an;obtain⟨ai,ap⟩:=ao m x am;have S:=z (by rw[←ai,ag]);have A:a7D (fun _ v c=>one c=true∧PR G.Z w v c) w (G.β (nest k i j)) (m*s) (l6 x):=fun t c y=>by
               obtain⟨Y,u,V,Z⟩:=ap t c y;exact⟨u,by rw[a1c Q,←ag,ai];exact V,Y,Z⟩
              obtain⟨u,Y,V,Z⟩:=a7d (P:=P) hi hs A a;refine⟨u,by rw[S];exact Y,?_⟩;cases agg with
              |false=>exact a1x (V rfl).1.1 (V rfl).1.2
              |true=>
               obtain⟨vs,rfl,rfl,aq,ar⟩:=Z rfl;exact a9o (o:=l) (R:=fun _ v c=>one c=true∧PR G.Z w v c) ar aq fun _ _ _ _ x=>⟨x.1,a1x x.1 x.2⟩
            . cases a
          . cases a
        . cases a
      . cases a
    . cases a
  . cases a
 case fptr cs=>
  simp only[a0o]at a;unfold D at n;unfold j9 at n;obtain⟨b,o,rfl,aE,h1⟩:=PR.a3f.1 n;have A:a7D (fun _ v c=>one c=true∧PR G.Z w v c) w b o cs:=fun j c y=>by obtain⟨H,u,d,z⟩:=h1 j c y;exact⟨u,d,H,z⟩
  obtain⟨u,H,d,z⟩:=a7d (P:=P) hi hs A a;rw[a4d]at H;refine⟨u,H,?_⟩;cases agg with
  |false=>exact a1x (d rfl).1.1 (d rfl).1.2
  |true=>
   obtain⟨vs,rfl,rfl,I,C⟩:=z rfl;exact a9o (o:=0) (R:=fun _ v c=>one c=true∧PR G.Z w v c) C I fun _ _ _ _ x=>⟨x.1,a1x x.1 x.2⟩
end
end
section
variable{v:Value}{p:PV}{t:TypeId}
theorem a8r:∀(a cs:List PV) (off:Nat),off+a.length≤cs.length→(a1N cs off a).length=cs.length∧∀t,(a1N cs off a)[t]?=if off≤t∧t<off+a.length then a[t-off]? else cs[t]?
 | [],cs,off,_=>⟨rfl,fun t=>by rw[if_neg k8];rfl⟩
 |d::a,cs,off,h=>by
  simp only[S9]at h;obtain⟨h1,b⟩:=a8r a (cs.set off d) (off+1) F6;refine⟨by simp[a1N,h1],fun t=>?_⟩;simp only[a1N,b,S9];by_cases c:t=off
  . grind
  . grind
theorem b6I(off:Nat):∀(vs:List Value) (n:Nat) (A:Array Value),off+n+vs.length≤A.size→
 (((vs.zipIdx n).foldl (fun(cs:Array Value) (x:Value×Nat)=>cs.setIfInBounds (off+x.2) x.1) A).size=A.size∧
  ∀t,((vs.zipIdx n).foldl (fun(cs:Array Value) (x:Value×Nat)=>cs.setIfInBounds (off+x.2) x.1) A)[t]?=if off+n≤t∧t<off+n+vs.length then vs[t-(off+n)]? else A[t]?)
 | [],n,A,_=>⟨rfl,fun t=>by rw[if_neg k8];rfl⟩
 |v::vs,n,A,h=>by
  simp only[S9]at h;obtain⟨h1,a⟩:=b6I off vs (n+1) (A.setIfInBounds (off+n) v) F6;simp only[List.zipIdx_cons,a4e];refine⟨by rw[h1];simp,fun t=>?_⟩;rw[a];simp only[S9];by_cases b:t=off+n
  . grind
  . grind
theorem b5Y(off:Nat)(V A:Array Value)(h:off+V.size≤A.size):
 (V.zipIdx.foldl (fun(cs:Array Value) (x:Value×Nat)=>cs.setIfInBounds (off+x.2) x.1) A).size=A.size∧
  ∀t,(V.zipIdx.foldl (fun(cs:Array Value) (x:Value×Nat)=>cs.setIfInBounds (off+x.2) x.1) A)[t]?=if off≤t∧t<off+V.size then V[t-off]? else A[t]?:=by
 have:=b6I off V.toList 0 A (by simpa using h);rw[←Array.foldl_toList,Array.toList_zipIdx];simpa using this
section
variable{P:Program}{B:Nat}{Z0:Nat→Prop}{G:Gh}{h:Heap}{w:World}
theorem a4W(g:j9 G h w D v p)(j:(l6 p).all one=true):J4 (fun u c=>one c=true∧j9 G h w D u c) v.cells (l6 p):=by
 cases p
 case agg cs=>
  obtain⟨vs,rfl,h1,k⟩:=a5w g;refine⟨h1,fun i c e=>?_⟩;obtain⟨u,l,m⟩:=k i c e;exact⟨u,l,B5.1 j c (D0 e),m.up⟩
 case tup|uu|uslc=>simp[l6,one,Y1]at j
 all_goals
  have e:v.cells= #[v]:=by
   have d:=g;unfold D at d;unfold j9 at d
   first
    |exact d.2
    |(subst d;rfl)
    |(obtain⟨rfl,n⟩:=d;cases v<;>first|rfl|(simp[b0m]at n))
    |(obtain⟨a,c,sz,rfl,_⟩:=PR.U1.1 d;rfl)
    |(obtain⟨b,es,q,rfl,_⟩:=PR.M6 d;rfl)
    |(obtain⟨b,o,rfl,_⟩:=PR.a3f.1 d;rfl)
    |(obtain⟨a,c,rfl,_⟩:=d;rfl)
    |(obtain⟨a,rfl,_⟩:=d;rfl)
    |(obtain⟨a,f,c,rfl,_⟩:=d;rfl)
  rw[e];refine⟨rfl,fun i c hi=>?_⟩;have:i=0:=by have:=(C0.1 hi).1;simp[l6]at this;exact this
  subst this;simp[l6]at hi;subst hi;exact⟨v,rfl,by first|rfl|simpa only[l6,List.all_cons,List.all_nil,Bool.and_true]using j,g⟩
theorem a7C{u:Value}{c:PV}(e:one c=true)(d:j9 G h w D u c):u.oneCell'=true:=by
 cases c<;>(try (simp[one,Y1]at e;done))<;>
  (unfold D at d;unfold j9 at d
   first
    |exact d.1
    |(subst d;rfl)
    |(obtain⟨rfl,g⟩:=d;cases u<;>first|rfl|(simp[b0m]at g))
    |(obtain⟨a,c,sz,rfl,_⟩:=PR.U1.1 d;rfl)
    |(obtain⟨b,es,q,rfl,_⟩:=PR.M6 d;rfl)
    |(obtain⟨b,o,rfl,_⟩:=PR.a3f.1 d;rfl)
    |(obtain⟨a,c,rfl,_⟩:=d;rfl)
    |(obtain⟨a,rfl,_⟩:=d;rfl)
    |(obtain⟨a,f,c,rfl,_⟩:=d;rfl))
theorem c0l(a:ofC v=some p):one p=true∧j9 G h w D v p:=by
 unfold ofC at a;split at a<;>(try cases a)
 . exact⟨rfl,a1o⟩
 . exact⟨rfl,a0J⟩
 . exact⟨rfl,a5E⟩
 . exact⟨rfl,by unfold D;unfold j9;exact⟨rfl,rfl⟩⟩
 . exact⟨rfl,a4R⟩
 . exact⟨rfl,by unfold D;unfold j9;exact⟨rfl,rfl⟩⟩
 . exact⟨rfl,by unfold D;unfold j9;exact⟨rfl,rfl⟩⟩
 . exact⟨rfl,by unfold D;unfold j9;exact⟨rfl,rfl⟩⟩
theorem c0u:∀{l:List Value} {ps:List PV},a8H l=some ps→l.length=ps.length∧ps.all one=true∧∀(i:Nat) c,ps[i]?=some c→∃u,l[i]?=some u∧j9 G h w D u c
 | [],ps,d=>by simp[a8H]at d;subst d;exact⟨rfl,rfl,fun i c e=>by simp at e⟩
 |v::l,ps,d=>by
  simp only[a8H]at d;split at d
  . rename_i a b h1 f;cases d;obtain⟨g,j⟩:=c0l (G:=G) (h:=h) (w:=w) h1;obtain⟨k,m,n⟩:=c0u f;refine⟨by simp[k],by simp[g,m],fun i c e=>?_⟩;cases i with
    |zero=>simp at e;subst e;exact⟨v,rfl,j⟩
    |succ i=>exact n i c (by simpa using e)
  . cases d
theorem a8N(a:ofV v=some p):j9 G h w D v p∧(l6 p).all one=true:=by
 unfold ofV at a;split at a
 . rename_i cs;obtain⟨ps,h1,rfl⟩:=C9.1 a;obtain⟨b,d,f⟩:=c0u (G:=G) (h:=h) (w:=w) h1;refine⟨a6Q ⟨by simpa using b,fun i c e=>?_⟩,d⟩;obtain⟨u,g,j⟩:=f i c e;exact⟨u,by simpa using g,one_cell (B5.1 d c (D0 e)) j⟩
 . obtain⟨h1,b⟩:=c0l (G:=G) (h:=h) (w:=w) a;refine⟨b,?_⟩;cases p<;>first|(simpa only[l6,List.all_cons,List.all_nil,Bool.and_true]using h1)|(simp[one,Y1]at h1)
theorem a4Q{z:PV}(a:a0v P t=some z):∃i v,P.info? t=some i∧i.zero=some v∧ofV v=some z:=by
 unfold a0v at a;split at a
 . grind
 . cases a
theorem b1X{i:TypeInfo}(h1:P.info? t=some i)(a:i.zero=some v):(zeroValue t).run P w=.ok v w:=by simp[zeroValue,typeInfo,h1,a]
theorem c9O{agg:Bool}{sz off:Nat}{vs:Array Value}{cs:List PV}{r:PV}(hi:a1D P t=some agg)(hs:I9 P t=some sz)(b:J4 (j9 G h w 5) vs cs)(a:a2y agg sz cs off=some r):
 ∃u,(part t vs off).run P w=.ok u w∧j9 G h w D u r:=by
 obtain⟨i,g,rfl⟩:=a1Z hs;unfold a1D at hi;cases agg with
 |false=>
  simp only[a2y,a4c,if_false]at a;obtain⟨u,h1,e⟩:=b.2 off r a;refine⟨u,?_,e.up⟩;have:(isAgg t).run P w=.ok false w:=by
   unfold isAgg;split at hi
   . simp at hi
   . simp at hi
   . rename_i d g1 g2 hu;simp only[N6,run_underlying hu,P5];cases d<;>first|rfl|exact absurd rfl (g1 _)|exact absurd rfl (g2 _ _)
   . simp at hi
  simp[part,this,h1]
 |true=>
  simp only[a2y,if_true]at a;split at a
  . rename_i hle;cases a;have:(isAgg t).run P w=.ok true w:=by
     unfold isAgg;split at hi
     . rename_i hu;simp[run_underlying hu]
     . rename_i hu;simp[run_underlying hu]
     . simp at hi
     . simp at hi
    refine⟨.agg (vs.extract off (off+i.size)),by simp[part,this,sizeOf,typeInfo,g],a6Q ⟨?_,fun j c f=>?_⟩⟩
    . simp[b.1];omega
    . have hj:j<i.size:=(by have:=(C0.1 f).1;simp at this;omega);rw[a0H,if_pos hj,a2U]at f;obtain⟨u,h1,e⟩:=b.2 _ c f;refine⟨u,?_,e⟩;rw[Array.getElem?_extract,if_pos (by rw[b.1];omega)];exact h1
  . cases a
inductive a7q(G:Gh)(h:Heap)(w:World)(place:Nat→Option (Nat×Nat)):List (Nat×Value)→List (Nat×Nat×PV)→Prop
 |nil:a7q G h w place [] []
 |cons {i off sz v p l m}:place i=some (off,sz)→j9 G h w D v p→a7q G h w place l m→a7q G h w place ((i,v)::l) ((off,sz,p)::m)
theorem c2s{place:Nat→Option (Nat×Nat)}{R:Value→PV→Prop}(j:∀u c,one c=true→j9 G h w D u c→R u c){parts:List (Nat×Value)}{xs:List (Nat×Nat×PV)}(hp:a7q G h w place parts xs):∀{A:Array Value} {cs d:List PV},J4 R A cs→a6P cs xs=some d→
 ∃A',Instr.fill place A parts=some A'∧J4 R A' d:=by
 induction hp with
 |nil=>intro A cs d b a;simp[a6P]at a;subst a;exact⟨A,rfl,b⟩
 | @cons i off sz v p l m h1 k z n=>
  intro A cs d b a;simp only[a6P]at a;split at a
  . rename_i o;obtain⟨c1,c2,c3⟩:=o;have f:=a4W k c3;have g:v.cells.size=sz:=(by rw[f.1,c1]);obtain⟨s1,s2⟩:=b5Y off v.cells A (by rw[g,b.1];exact c2);obtain⟨t1,t2⟩:=a8r (l6 p) cs off j4;have q:J4 R (v.cells.zipIdx.foldl (fun(cs:Array Value) (x:Value×Nat)=>cs.setIfInBounds (off+x.2) x.1) A) (a1N cs off (l6 p)):=by
     refine⟨by rw[s1,t1,b.1],fun t c e=>?_⟩;rw[t2]at e;rw[s2];split at e
     . rename_i hr;rw[if_pos j4];obtain⟨u,g1,g2,g3⟩:=f.2 _ c e;exact⟨u,g1,j u c g2 g3⟩
     . rename_i hr;rw[if_neg j4];exact b.2 t c e
    obtain⟨A',r,s⟩:=n q a;refine⟨A',?_,s⟩;simp only[Instr.fill,h1];have y:(decide (v.cells.size≠sz)||decide (off+v.cells.size>A.size))=false:=by have:=b.1;simp[g];omega
    simp only[y,a4c,if_false];exact r
  . cases a
end
end
section
variable{k sz n:Nat}{hide:List Nat}{z:PV}{t e:TypeId}{es:List PV}{xs:List (Nat×PV)}{parts:Array (Nat×Value)}
def Gh.put(G:Gh)(k b γ0:Nat):Gh:=
 {β:=fun key=>if key.1=k then b else G.β key,R:=fun key=>if key.1=k then key.2=none else G.R key,γ:=fun key=>if key.1=k then γ0 else G.γ key,σ:=G.σ,Z:=G.Z}
section
variable{P:Program}{B:Nat}{Z0:Nat→Prop}{G:Gh}{h:Heap}{w w':World}
theorem a6A{g:Nat}{ob:Ob}(a:hide.contains k=false)(b:h[k]?=some (g,ob)):(l7 h hide k).1=g:=by
 unfold l7
 grind
theorem b0i{b γ0 a:Nat}{y:Option (Nat×Nat)}(c:a≠k):C8 G (G.put k b γ0) (a,y):=by refine⟨?_,?_,?_,rfl⟩<;>simp[Gh.put,c]
theorem b0A(hr:s6 B Z0 G h w){g:Nat}{m:Ob}(n:h[k]?=some (g,m)){ob:Obj}(o:isD ob=true){o':Ob}(γ0:Nat)(hw:w'.heap=w.heap.push ob)
 (p:b4J o'=true→∀y,(G.put k w.heap.size γ0).R (k,y)→(G.put k w.heap.size γ0).Z ((G.put k w.heap.size γ0).β (k,y)))
 (q:Ext G h w (G.put k w.heap.size γ0) (h.set k (g+1,o')) w'→F7 (G.put k w.heap.size γ0) (h.set k (g+1,o')) w' k o'):
 s6 B Z0 (G.put k w.heap.size γ0) (h.set k (g+1,o')) w'∧Ext G h w (G.put k w.heap.size γ0) (h.set k (g+1,o')) w':=by
 have r:k<h.length:=(C0.1 n).1;have hold:∀b,b<w.heap.size→w'.heap[b]?=w.heap[b]?:=fun b hb=>by rw[hw,Array.getElem?_push,if_neg j4]
 have x:Ext G h w (G.put k w.heap.size γ0) (h.set k (g+1,o')) w':=by
  refine⟨fun _ y=>y,fun b hb=>hold b (hr.zb b hb).lt,fun c gn ob e=>?_⟩;by_cases a:c=k
  . grind
  . exact⟨gn,ob,by rw[F4 (Ne.symm a)];exact e,p7 _,fun _=>K7.refl c ob (b0i a) fun i j=>b0i a⟩
 refine⟨hr.update k (g+1) o' r x (fun c y a=>.inl (b0i a)) (fun c y a d=>hold _ (hr.lv _ d).2.lt) (by rw[hw];simp) (fun b hb=>(hr.zb b hb).eq (x.zw b hb)) (fun b hb=>.inl hb) (fun _ _ _ _ s=>s) (fun y d=>?_) p (q x),x⟩;have t:y=none:=by simpa[Gh.put]using d
 subst t;have u:(G.put k w.heap.size γ0).β (k,none)=w.heap.size:=by simp[Gh.put]
 rw[u];refine⟨hr.base,⟨ob,by rw[hw];simp,o⟩,fun _ v=>by have:=(hr.zb _ v).lt;omega,fun f l _=>?_,fun c f a l=>?_⟩
 . have:f=none:=(by simpa[Gh.put]using l);exact this.symm
 . obtain⟨a1,a2,_⟩:=b0i (G:=G) (b:=w.heap.size) (γ0:=γ0) (y:=f) a;rw[a1];have:=(hr.lv _ (a2.1 l)).2.lt;omega
theorem a6S(hr:s6 B Z0 G h w)(o:Obj):Bl B w (w.alloc o):=(Bl.refl _ _).alloc hr.base o
theorem b7F(o:Obj):(w.alloc o).heap=w.heap.push o:=rfl
theorem b5K(hr:s6 B Z0 G h w)(a:k<h.length∧hide.contains k=false){us:Array Value}{T:TypeId}{cs:List PV}(hu:J4 (fun v c=>one c=true∧j9 G h w D v c) us cs)
 {s:Sem Next} (hs:s.run P w=.ok (.value (.pointer (some ⟨w.heap.size,0,none⟩))) (w.alloc (.cells us T))):
 Good P B Z0 G h w s (.ptr k ((l7 h hide k).1+1) 0) [(k,((l7 h hide k).1+1,.var cs))]:=by
 obtain⟨⟨g,f⟩,b⟩:∃r,h[k]?=some r:=⟨_,l9 a.1⟩
 rw[a6A a.2 b];obtain⟨h1,d⟩:=b0A (w':=w.alloc (.cells us T)) (o':=.var cs) hr b (ob:=.cells us T) rfl 0 rfl (fun e=>by cases e) (fun x=>by unfold F7;refine⟨by simp[Gh.put],us,T,?_,hu.mono fun v c y=>⟨y.1,y.2.ext x⟩⟩;rw[show(G.put k w.heap.size 0).β (root k)=w.heap.size by simp[Gh.put]];exact heap_alloc_new w _)
 refine⟨_,_,_,_,hs,.inl rfl,h1,d,?_,a6S hr _⟩;unfold D;unfold j9;refine⟨_,rfl,g+1,.var cs,E8 a.1,p7 _,fun _ i e=>?_⟩;simp[Gh.put]
theorem b7j(hr:s6 B Z0 G h w)(a:k<h.length∧hide.contains k=false){us:Array Value}{T:TypeId}{cap:Nat}(o:0<sz)(p:us.size=cap*sz)(hle:es.length≤cap)(hm:cap≤maxLen)
 (hu:∀(i:Nat) e,es[i]?=some e→(l6 e).length=sz∧∀(j:Nat) c,(l6 e)[j]?=some c→one c=true∧∃u,us[i*sz+j]?=some u∧j9 G h w D u c)
 {s:Sem Next} {w':World} (hw:w'.heap=w.heap.push (.cells us T (0,0))) (hb:Bl B w w') (hs:s.run P w=.ok (.value (.slice (some ⟨w.heap.size,0,none⟩) es.length cap)) w'):
 Good P B Z0 G h w s (.own k ((l7 h hide k).1+1) es.length sz 0 es.length) [(k,((l7 h hide k).1+1,.arr sz 0 false es))]:=by
 obtain⟨⟨g,E⟩,d⟩:∃r,h[k]?=some r:=⟨_,l9 a.1⟩
 rw[a6A a.2 d];have f:(G.put k w.heap.size cap).β (root k)=w.heap.size:=by simp[Gh.put]
 have l:(G.put k w.heap.size cap).γ (root k)=cap:=by simp[Gh.put]
 have m:(G.put k w.heap.size cap).R (root k):=by simp[Gh.put]
 obtain⟨h1,q⟩:=b0A (w':=w') (o':=.arr sz 0 false es) hr d (ob:=.cells us T) rfl cap hw (fun e=>by cases e) (fun x=>by unfold F7;rw[f,l];refine⟨o,hle,hm,fun _=>⟨us,T,by rw[hw];simp,p,fun i e he=>?_⟩,fun b=>absurd m b⟩;obtain⟨t,v⟩:=hu i e he;refine⟨t,fun j c y=>?_⟩;obtain⟨n,u,z,A⟩:=v j c y;refine⟨u,z,?_⟩;have C:=A.ext x;cases c<;>first|(simp[one,Y1]at n;done)|(unfold G9;exact⟨n,C⟩))
 refine⟨_,_,_,_,hs,.inl rfl,h1,q,?_,hb⟩;unfold D;unfold j9;refine⟨_,_,rfl,hle,hm,.inr ⟨_,_,rfl⟩,g+1,.arr sz 0 false es,E8 a.1,p7 _,fun _ F ver fr es' e=>?_⟩;cases e;refine⟨p7 _,fun _=>⟨j4,fun _=>⟨0,by rw[f],.inr k8,j4,by rw[l];omega⟩,fun b=>absurd m b⟩⟩
theorem a6M{v:Value}(a:ofV v=some z):J4 (fun u c=>one c=true∧j9 G h w D u c) v.cells (l6 z):=
 let x:=a8N (G:=G) (h:=h) (w:=w) a
 a4W x.1 x.2
theorem c3Q(hr:s6 B Z0 G h w)(a:k<h.length∧hide.contains k=false)(b:a0v P t=some z):
 Good P B Z0 G h w (do pure (.value (←Instr.alloc t true (.tuple #[])))) (.ptr k ((l7 h hide k).1+1) 0) [(k,((l7 h hide k).1+1,.var (l6 z)))]:=by
 obtain⟨i,v,h1,c,d⟩:=a4Q b;refine b5K hr a (T:=t) (us:=v.cells) (a6M d) ?_;simp[Instr.alloc,b1X h1 c,newVar,newRow]
theorem c7i(hr:s6 B Z0 G h w)(a:k<h.length∧hide.contains k=false){v:Value}{p:PV}(b:j9 G h w D v p)(c:(l6 p).all one=true):
 Good P B Z0 G h w (do pure (.value (←Instr.box t v))) (.ptr k ((l7 h hide k).1+1) 0) [(k,((l7 h hide k).1+1,.var (l6 p)))]:=by
 refine b5K hr a (T:=t) (us:=v.cells) (a4W b c) ?_;simp[Instr.box,newVar,newRow]
theorem b7H{z:Array Value}{i:Nat}(a:0<z.size)(hi:i<n):(madeCells z n)[i]?=z[i%z.size]?:=by have hm:i%z.size<z.size:=Nat.mod_lt _ a;simp[madeCells,hi,hm]
theorem b6m{i j:Nat}(hj:j<sz):(i*sz+j)%sz=j:=by rw[Nat.add_comm,Nat.add_mul_mod_self_right,Nat.mod_eq_of_lt hj]
theorem b9w(e:PV):l6 (a7f e)=(l6 e).map a1M:=by cases e<;>rfl
theorem c7R{u:Value}{c:PV}(d:one c=true)(a:j9 G h w D u c):one (a1M c)=true∧j9 G h w D u (a1M c):=by
 by_cases b:c=.nils
 . subst b;obtain rfl:=a0k a;exact⟨rfl,a0N (PR.U1.2 ⟨none,0,0,rfl,p7 _,E0 _,fun _=>rfl,fun i e he=>by simp at he⟩)⟩
 . have e:a1M c=c:=by cases c<;>first|rfl|exact absurd rfl b
   rw[e];exact⟨d,a⟩
theorem c3s(hr:s6 B Z0 G h w){b:Nat}(g:k<h.length∧hide.contains k=false){l c:Int}(hu:a4q P t=some e)(hs:I9 P e=some sz)(hb:a5u P e=some b)(m:a0v P e=some z)
 (h0:sz≠0) (d:(l6 z).length=sz) (c1:0≤l) (c2:l≤c) (c3:c*b≤140737488355328) (c4:c≤9223372036854775807):
 Good P B Z0 G h w (do pure (.value (←Instr.makeSlice t (.int .i64 l) (.int .i64 c)))) (.own k ((l7 h hide k).1+1) l.toNat sz 0 l.toNat) [(k,((l7 h hide k).1+1,.arr sz 0 false (List.replicate l.toNat z)))]:=by
 obtain⟨i,v,h1,n,o⟩:=a4Q m;obtain⟨D,hi,rfl⟩:=a1Z hs;rw[h1]at hi;cases hi;have E:i.bytes=b:=by unfold a5u at hb;rw[h1]at hb;simpa using hb
 have hle:(i.bytes:Int)*c≤281474976710656:=by grind
 have p:=run_make (P:=P) w t e i v (b4c hu) h1 n .i64 .i64 l c c1 c2 hle c4;have f:=a6M (G:=G) (h:=h) (w:=w) o;have q:v.cells.size=i.size:=by rw[f.1,d]
 have:=b7j (P:=P) hr (hide:=hide) g (us:=madeCells v.cells (c.toNat*i.size)) (T:=e) (es:=List.replicate l.toNat z) (cap:=c.toNat) (sz:=i.size) j4 (size_madeCells _ _) F6 (by unfold maxLen;omega)
  (fun a x r=>by
   have y:=a9H (D0 r);subst y;have F:a<l.toNat:=(by grind);refine⟨d,fun j A hj=>?_⟩;obtain⟨u,g1,g2,g3⟩:=f.2 j A hj;have C:j<i.size:=(by grind);refine⟨g2,u,?_,g3⟩;rw[b7H j4]
   . rw[q,b6m C];exact g1
   . have:(a+1)*i.size≤c.toNat*i.size:=a0h _ j4;rw[O5]at this;omega)
  (s:=do pure (.value (←Instr.makeSlice t (.int .i64 l) (.int .i64 c)))) (w':=w.alloc (.cells (madeCells v.cells (c.toNat*i.size)) e)) rfl (a6S hr _) (by simp[p])
 simpa using this
inductive a4Y(G:Gh)(h:Heap)(w:World):List (Nat×Value)→List (Nat×PV)→Prop
 |nil:a4Y G h w [] []
 |cons {i v p l m}:j9 G h w D v p→a4Y G h w l m→a4Y G h w ((i,v)::l) ((i,p)::m)
def a9f(G:Gh)(h:Heap)(w:World)(sz:Nat)(A:Array Value)(es:List PV):Prop:=A.size=es.length*sz∧∀(i:Nat) e,es[i]?=some e→(l6 e).length=sz∧∀(j:Nat) c,(l6 e)[j]?=some c→one c=true∧∃u,A[i*sz+j]?=some u∧j9 G h w D u c
theorem c5b(E:0<sz){parts:List (Nat×Value)}(hp:a4Y G h w parts xs):∀{A:Array Value} {es es':List PV},a9f G h w sz A es→a3Y sz es xs=some es'→
 ∃A',Instr.fill (fun i=>some (i*sz,sz)) A parts=some A'∧a9f G h w sz A' es'∧es'.length=es.length:=by
 induction hp with
 |nil=>intro A es es' b a;simp[a3Y]at a;subst a;exact⟨A,rfl,b,rfl⟩
 | @cons i v p l m n F o=>
  intro A es es' b a;simp only[a3Y]at a;split at a
  . rename_i q;obtain⟨c1,c2,c3⟩:=q;have g:=a4W n c3;have k:v.cells.size=sz:=(by rw[g.1,c1]);have H:i*sz+sz≤A.size:=by
     rw[b.1];have:(i+1)*sz≤es.length*sz:=a0h _ j4;rw[O5]at this;omega
    obtain⟨s1,s2⟩:=b5Y (i*sz) v.cells A j4;have r:a9f G h w sz (v.cells.zipIdx.foldl (fun(cs:Array Value) (x:Value×Nat)=>cs.setIfInBounds (i*sz+x.2) x.1) A) (es.set i p):=by
     refine⟨by rw[s1,b.1];simp,fun t e d=>?_⟩;by_cases f:t=i
     . subst f;rw[E8 c2]at d;cases d;refine⟨c1,fun j c hj=>?_⟩;have s:j<sz:=(by grind);obtain⟨u,g1,g2,g3⟩:=g.2 j c hj;refine⟨g2,u,?_,g3⟩;rw[s2,if_pos j4,show t*sz+j-t*sz=j by omega];exact g1
     . rw[F4 (Ne.symm f)]at d;obtain⟨g1,g2⟩:=b.2 t e d;refine⟨g1,fun j c hj=>?_⟩;have s:j<sz:=(by grind);obtain⟨g3,u,g4,g5⟩:=g2 j c hj;refine⟨g3,u,?_,g5⟩;rw[s2,if_neg ?_]
       . exact g4
       . rw[k];rintro⟨I,J⟩;rcases b1Z f with y|y
         . have:(t+1)*sz≤i*sz:=a0h _ j4;rw[O5]at this;omega
         . have:(i+1)*sz≤t*sz:=a0h _ j4;rw[O5]at this;omega
    obtain⟨A',z,B,C⟩:=o r a;refine⟨A',?_,B,by simpa using C⟩;simp only[Instr.fill];have D:(decide (v.cells.size≠sz)||decide (i*sz+v.cells.size>A.size))=false:=by simp[k];omega
    simp only[D,a4c,if_false];exact z
  . cases a
theorem b3z(hu:a4q P t=some e)(hs:I9 P e=some sz)(g:a0v P e=some z)
 (h0:sz≠0) (I:n*sz≤16777216) (c:(l6 z).length=sz) (hp:a4Y G h w parts.toList xs) (hm:a3Y sz (List.replicate n z) xs=some es):
 ∃A',(Instr.buildSlice t n parts).run P w=.ok (.slice (some ⟨w.heap.size,0,none⟩) n n) (w.alloc (.cells A' e))∧a9f G h w sz A' es∧es.length=n∧n≤16777216:=by
 obtain⟨i,v,h1,k,l⟩:=a4Q g;obtain⟨J,hi,rfl⟩:=a1Z hs;rw[h1]at hi;cases hi;have d:=a6M (G:=G) (h:=h) (w:=w) l;have m:v.cells.size=i.size:=by rw[d.1,c]
 have o:a9f G h w i.size (madeCells v.cells (n*i.size)) (List.replicate n z):=by
  refine⟨by rw[size_madeCells];simp,fun a x p=>?_⟩;have q:=a9H (D0 p);subst q;have K:a<n:=by grind
  refine⟨c,fun j r hj=>?_⟩;obtain⟨u,g1,g2,g3⟩:=d.2 j r hj;have s:j<i.size:=by grind
  refine⟨g2,u,?_,g3⟩;rw[b7H j4]
  . rw[m,b6m s];exact g1
  . have:(a+1)*i.size≤n*i.size:=a0h _ j4;rw[O5]at this;omega
 obtain⟨A',b,y,A⟩:=c5b j4 hp o hm;have hlen:es.length=n:=by simpa using A
 have B:(Instr.buildSlice t n parts).run P w=.ok (.slice (some ⟨w.heap.size,0,none⟩) n n) (w.alloc (.cells A' e)):=by
  have C:¬(16777216<n*i.size):=j4;by_cases f:n*i.size=0
  . have D:n=0:=by
     rcases Nat.mul_eq_zero.1 f with x|x
     . exact x
     . exact absurd x h0
    subst D;have E:madeCells v.cells 0= #[]:=(by simp[madeCells,Array.range_zero']);rw[Nat.zero_mul,E]at b;have F:Instr.fill (fun x=>some (x*i.size,i.size)) (Array.map (fun x=>default) (Array.range 0)) parts.toList=some A':=(by grind);simp[Instr.buildSlice,run_underlying (b4c hu),sizeOf,typeInfo,h1,F,newRow]
  . have H:=b1X (w:=w) h1 k;simp only[madeCells]at b;simp[Instr.buildSlice,run_underlying (b4c hu),sizeOf,typeInfo,h1,C,f,H,b,newRow]
 have hbound:n≤16777216:=by have:n*1≤n*i.size:=Nat.mul_le_mul_left _ j4;omega
 exact⟨A',B,y,hlen,hbound⟩
theorem c2N(hr:s6 B Z0 G h w)(b:k<h.length∧hide.contains k=false)(hu:a4q P t=some e)(hs:I9 P e=some sz)(c:a0v P e=some z)
 (h0:sz≠0) (d:n*sz≤16777216) (f:(l6 z).length=sz) (hp:a4Y G h w parts.toList xs) (hm:a3Y sz (List.replicate n z) xs=some es):
 Good P B Z0 G h w (do pure (.value (←Instr.buildSlice t n parts))) (.own k ((l7 h hide k).1+1) es.length sz 0 es.length) [(k,((l7 h hide k).1+1,.arr sz 0 false es))]:=by
 obtain⟨A',g,a,hlen,hbound⟩:=b3z (P:=P) hu hs c h0 d f hp hm;exact b7j (P:=P) hr (hide:=hide) b (us:=A') (T:=e) (es:=es) (cap:=n) (sz:=sz) j4 (by rw[a.1,hlen]) j4 (by unfold maxLen;omega) a.2 (w':=w.alloc (.cells A' e)) rfl (a6S hr _) (by simp[g,hlen])
theorem b7X(hr:s6 B Z0 G h w)(o:Obj)(d:∃us T x,o=.cells us T x):s6 B Z0 {G with Z:=fun b=>G.Z b∨b=w.heap.size} h (w.alloc o)∧Ext G h w {G with Z:=fun b=>G.Z b∨b=w.heap.size} h (w.alloc o):=by
 have hold:∀b,b<w.heap.size→(w.alloc o).heap[b]?=w.heap[b]?:=fun b hb=>by
  rw[b7F,Array.getElem?_push];split
  . omega
  . rfl
 have f:(w.alloc o).heap.size=w.heap.size+1:=by rw[b7F];simp
 have x:Ext G h w {G with Z:=fun b=>G.Z b∨b=w.heap.size} h (w.alloc o):=
  ⟨fun _ y=>.inl y,fun b hb=>hold b (hr.zb b hb).lt,fun k gn ob e=>⟨gn,ob,e,p7 _,fun _=>K7.refl k ob ⟨rfl,Iff.rfl,rfl,rfl⟩ fun _ _=>⟨rfl,Iff.rfl,rfl,rfl⟩⟩⟩
 refine⟨⟨by rw[f];have:=hr.base;omega,?_,?_,fun key i=>?_,?_,fun k g o c j y a=>.inl (hr.fz k g o c j y a),hr.inj,fun k g ob c=>?_⟩,x⟩
 . rintro b (hb|rfl)
   . exact hr.zo b hb
   . exact .inr hr.base
 . rintro b (hb|rfl)
   . exact(hr.zb b hb).eq (hold b (hr.zb b hb).lt)
   . obtain⟨us,T,x0,rfl⟩:=d;exact U8.of (heap_alloc_new w _)
 . have:=hr.lv key i;exact⟨this.1,this.2.eq (hold _ this.2.lt)⟩
 . rintro k g ob c l y a (hb|hb)
   . exact hr.nz k g ob c l y a hb
   . have h1:=(hr.lv (k,y) a).2.lt
     grind
 . exact(hr.ob k g ob c).ext x (fun y=>⟨rfl,Iff.rfl,rfl,rfl⟩) fun y a=>hold _ (hr.lv _ a).2.lt
theorem c1f{u:Value}{c:PV}{Z':Nat→Prop}(f:∀b,G.Z b→Z' b){w':World}(hw:∀b,G.Z b→w'.heap[b]?=w.heap[b]?)(hp:A7 (a1M c)=true)(a:j9 G h w D u c):one (a1M c)=true∧PR Z' w' u (a1M c):=by
 by_cases d:c=.nils
 . subst d;obtain rfl:=a0k a;exact⟨rfl,PR.U1.2 ⟨none,0,0,rfl,p7 _,E0 _,fun _=>rfl,fun i e he=>by simp at he⟩⟩
 . have e:a1M c=c:=by cases c<;>first|rfl|exact absurd rfl d
   rw[e]at hp⊢;refine⟨by cases c<;>first|rfl|(simp[A7]at hp),?_⟩;have g:PR G.Z w u c:=by cases c<;>first|(simp[A7]at hp;done)|exact a3n a|(unfold D at a;unfold j9 at a;exact a)|(unfold D at a;unfold j9 at a;exact⟨0,by unfold J1;exact a⟩)
   exact g.mono f hw
theorem c9C(hr:s6 B Z0 G h w)(hu:a4q P t=some e)(hs:I9 P e=some sz)(l:a0v P e=some z)
 (h0:sz≠0) (m:n*sz≤16777216) (o:(l6 z).length=sz) (hp:a4Y G h w parts.toList xs) (hm:a3Y sz (List.replicate n z) xs=some es) (p:es.all (fun e=>(l6 (a7f e)).all A7)=true):
 Good P B Z0 G h w (do pure (.value (←Instr.buildSlice t n parts))) (.slc (es.map a7f)) []:=by
 obtain⟨A',q,r,hlen,hbound⟩:=b3z (P:=P) hu hs l h0 m o hp hm;obtain⟨s,a⟩:=b7X hr (.cells A' e) ⟨_,_,_,rfl⟩;refine⟨.value (.slice (some ⟨w.heap.size,0,none⟩) n n),_,w.alloc (.cells A' e),_,by simp[q],.inl rfl,s,a,a0N (PR.U1.2 ⟨some ⟨w.heap.size,0,none⟩,n,sz,by simp[hlen],by simp[hlen],by unfold maxLen;omega,k8,fun i x d=>?_⟩),a6S hr _⟩;rw[H6]at d;obtain⟨x0,f,rfl⟩:=C9.1 d;obtain⟨g1,g2⟩:=r.2 i x0 f;rw[b9w];refine⟨by simpa using g1,_,_,rfl,.inr rfl,fun j c g=>?_⟩;rw[H6]at g;obtain⟨c0,k,rfl⟩:=C9.1 g;obtain⟨_,u,g3,g4⟩:=g2 j c0 k;have v:A7 (a1M c0)=true:=by have h1:=B5.1 p x0 (D0 f);rw[b9w]at h1;exact B5.1 h1 _ (G7.2 ⟨c0,D0 k,rfl⟩)
 obtain⟨g5,g6⟩:=c1f (Z':=fun b=>G.Z b∨b=w.heap.size) (w':=w.alloc (.cells A' e)) (fun b hb=>.inl hb) a.zw v g4;refine⟨g5,u,?_,g6⟩;rw[a1c (heap_alloc_new w _),V5];exact g3
end
end
section
variable{u:Value}{c:PV}{k:Nat}
section
variable{P:Program}{B:Nat}{Z0:Nat→Prop}{G G':Gh}{h h':Heap}{w w':World}
theorem a4D(hp:A7 c=true)(a:j9 G h w D u c):PR G.Z w u c:=by
 cases c<;>(try (simp[A7]at hp;done))
 case slc es=>exact a3n a
 case M6 ks vs=>unfold D at a;unfold j9 at a;exact a
 case fptr cs=>exact a8T a
 all_goals (refine⟨0,?_⟩;unfold D at a;unfold j9 at a;unfold J1;exact a)
theorem a3C(hp:A7 c=true):one c=true:=by cases c<;>simp[A7]at hp<;>rfl
theorem O2.ext(x:Ext G h w G' h' w'){key key':Key}(a:G'.β key'=G.β key∧(G'.R key'↔G.R key)∧G'.γ key'=G.γ key∧G'.σ key'=G.σ key)(hb:G.R key→w'.heap[G.β key]?=w.heap[G.β key]?){ns:List PV}(hp:O2 G w key u ns):O2 G' w' key' u ns:=by unfold O2 at hp⊢;obtain⟨a1,a2,a3,a4⟩:=a;rw[a1,a2,a3,a4];refine⟨fun r=>?_,hp.2⟩;obtain⟨us,T,f,c,h1,h0,b,d,g,k,l,m,n⟩:=hp.1 r;refine⟨us,T,f,c,h1,h0,b,d,g,by rw[hb r];exact k,l,m,fun i e he=>?_⟩;obtain⟨o,p⟩:=n i e he;refine⟨o,fun j c q=>?_⟩;obtain⟨s,v,t,y⟩:=p j c q;exact⟨s,v,t,y.mono x.zz x.zw⟩
theorem b7L{Z':Nat→Prop}(d:∀b,G.Z b→Z' b){key:Key}(g:G.R key→Z' (G.β key)){ns:List PV}(hp:O2 G w key u ns):PR Z' w u (.slc ns):=by
 unfold O2 at hp;by_cases a:G.R key
 . obtain⟨us,T,f,c,rfl,h0,h,s,t,k,x,y,l⟩:=hp.1 a;refine PR.U1.2 ⟨_,c,G.σ key,rfl,h,j4,fun e=>absurd e k8,fun i e he=>?_⟩;obtain⟨m,n⟩:=l i e he;have hi:=(C0.1 he).1;refine⟨m,_,_,rfl,g a,fun j o p=>?_⟩;obtain⟨q,v,z,r⟩:=n j o p;refine⟨q,v,?_,r.mono d fun _ _=>rfl⟩;rw[a1c k]
   grind
 . obtain⟨rfl,rfl⟩:=hp.2 a;exact PR.U1.2 ⟨none,0,0,rfl,p7 _,E0 _,fun _=>rfl,fun i e he=>by simp at he⟩
theorem a6q{Z':Nat→Prop}(d:∀b,G.Z b→Z' b){i j:Nat}(f:G.R (nest k i j)→Z' (G.β (nest k i j)))(g:(A7 c||I7 c)=true)(a:G9 G h w k i j u c):one (K5 c)=true∧PR Z' w u (K5 c):=by
 cases c
 case uslc ns=>unfold G9 at a;exact⟨rfl,b7L d f a⟩
 case nils=>
  unfold G9 at a;obtain rfl:=a0k a.2;exact⟨rfl,PR.U1.2 ⟨none,0,0,rfl,p7 _,E0 _,fun _=>rfl,fun i e he=>by simp at he⟩⟩
 all_goals
  unfold G9 at a;exact⟨a.1,(a4D (by simpa[I7]using g) a.2).mono d fun _ _=>rfl⟩
theorem a5J(e:PV):l6 (B6 e)=(l6 e).map K5:=by cases e<;>rfl
def Gh.a2P(G:Gh)(k s:Nat):Gh:={G with Z:=fun b=>G.Z b∨∃ij,G.R (k,some ij)∧b=G.β (k,some ij),σ:=fun key=>if key=root k then s else G.σ key}
theorem c4A(hr:s6 B Z0 G h w){g s ver:Nat}{es:List PV}(p:h[k]?=some (g,.arr s ver false es))(hp:es.all D9=true):
 s6 B Z0 (G.a2P k s) (h.set k (g,.dead)) w∧Ext G h w (G.a2P k s) (h.set k (g,.dead)) w∧
  ∀{u:Value} {q l:Nat},es.length=q→l=q→j9 G h w D u (.own k g q s 0 l)→O2 (G.a2P k s) w (root k) u (es.map B6):=by
 have E:k<h.length:=(C0.1 p).1;have r:∀n y,n≠k→C8 G (G.a2P k s) (n,y):=fun n y m=>⟨rfl,Iff.rfl,rfl,by simp[Gh.a2P,m]⟩
 have x:Ext G h w (G.a2P k s) (h.set k (g,.dead)) w:=by
  refine⟨fun _ y=>.inl y,fun _ _=>rfl,fun n gn ob e=>?_⟩;by_cases m:n=k
  . subst m;rw[p]at e;cases e;exact⟨g,.dead,E8 E,p7 _,fun _=>K7.dead _ _⟩
  . exact⟨gn,ob,by rw[F4 (Ne.symm m)];exact e,p7 _,fun _=>K7.refl n ob (r _ _ m) fun i j=>r _ _ m⟩
 refine⟨hr.update k g .dead E x (fun n y m=>.inl (r n y m)) (fun _ _ _ _=>rfl) (p7 _) ?_ (fun b hb=>hb.imp id fun⟨ij,h1,t⟩=>t▸(hr.lv _ h1).1) ?_ ?_ (fun e=>by cases e) trivial,x,?_⟩
 . rintro b (hb|⟨ij,d,rfl⟩)
   . exact hr.zb b hb
   . exact(hr.lv _ d).2
 . rintro n y m d M (hb|⟨ij,N,he⟩)
   . exact M hb
   . exact m (congrArg Prod.fst (hr.inj _ _ d N he))
 . intro y d;obtain⟨O,P⟩:=hr.lv (k,y) d;refine⟨O,P,fun e=>absurd e (by simp[a7s]),fun Q o he=>?_,fun n Q m o he=>?_⟩
   . exact congrArg Prod.snd (hr.inj _ _ d o he)
   . exact m (congrArg Prod.fst (hr.inj _ _ d o he)).symm
 . intro u q l h1 t z;subst h1 t;unfold D at z;unfold j9 at z;obtain⟨a,c,rfl,F,al,A,gn,ob,H,am,R⟩:=z;rw[p]at H;cases H;obtain⟨_,S⟩:=R rfl _ _ _ _ rfl;obtain⟨_,U,V⟩:=S rfl;have I:=hr.ob k g _ p;unfold F7 at I;obtain⟨W,an,X,Y,Z⟩:=I;unfold O2;refine⟨fun d=>?_,fun d=>?_⟩
   . obtain⟨us,T,aa,ab,ac⟩:=Y d;obtain⟨f,rfl,ao,ap,aq⟩:=U d;refine⟨us,T,f,c,by simp[Gh.a2P],?_,by simpa using F,?_,X,aa,?_,?_,fun i e he=>?_⟩
     . omega
     . show c≤G.γ (root k);omega
     . simpa[Gh.a2P]using ab
     . simpa[Gh.a2P]using W
     . rw[H6]at he;obtain⟨C,J,rfl⟩:=C9.1 he;obtain⟨ad,ae⟩:=ac i C J;have af:(G.a2P k s).σ (root k)=s:=(by simp[Gh.a2P]);rw[af,a5J];refine⟨by simpa using ad,fun j ar K=>?_⟩;rw[H6]at K;obtain⟨c0,L,rfl⟩:=C9.1 K;obtain⟨v,ag,ah⟩:=ae j c0 L;have ai:(A7 c0||I7 c0)=true:=B5.1 (show(l6 C).all (fun c=>A7 c||I7 c)=true from B5.1 hp C (D0 J)) c0 (D0 L);obtain⟨aj,ak⟩:=a6q (Z':=(G.a2P k s).Z) (fun b hb=>.inl hb) (fun o=>.inr ⟨(i,j),o,rfl⟩) ai ah;exact⟨aj,v,ag,ak⟩
   . have he:=Z d;subst he;obtain⟨rfl,_⟩:=V d;simp at F;rcases A with⟨_,rfl⟩|⟨b,f,A⟩
     . exact⟨rfl,rfl⟩
     . cases A
def a2S(G:Gh)(h:Heap)(w:World)(m:Option Nat)(u:Value)(d:PV):Prop:=
 match m with
 |none=>one d=true∧j9 G h w D u d
 |some k=>∃ns,d=.uslc ns∧O2 G w (root k) u ns
theorem a2S.ext(x:Ext G h w G' h' w'){m:Option Nat}{u:Value}{d:PV}(b:∀k,m=some k→C8 G G' (root k))(hb:∀k,m=some k→G.R (root k)→w'.heap[G.β (root k)]?=w.heap[G.β (root k)]?)(a:a2S G h w m u d):a2S G' h' w' m u d:=by
 cases m with
 |none=>exact⟨a.1,a.2.ext x⟩
 |some k=>obtain⟨ns,rfl,h1⟩:=a;exact⟨ns,rfl,h1.ext x (b k rfl) (hb k rfl)⟩
theorem a3I(h:Heap)(a b:List (Nat×Row)):p8 h (a++b)=p8 (p8 h a) b:=by simp[p8,b2a]
theorem a5v:∀(ws:List (Nat×Row)) (h:Heap),(p8 h ws).length=h.length
 | [],h=>rfl
 |x::ws,h=>by rw[show p8 h (x::ws)=p8 (h.set x.1 x.2) ws from rfl,a5v ws];simp
theorem a5S:∀(ws:List (Nat×Row)) (h:Heap) (k:Nat),k∉ws.map (·.1)→(p8 h ws)[k]?=h[k]?
 | [],h,k,_=>rfl
 |x::ws,h,k,a=>by simp only[a0s,Y8,not_or]at a;rw[show p8 h (x::ws)=p8 (h.set x.1 x.2) ws from rfl,a5S ws _ k a.2,F4 (Ne.symm a.1)]
structure a4A(G:Gh)(h:Heap)(G':Gh)(h':Heap)(ks:List Nat):Prop where
 same:∀k y,k∉ks→C8 G G' (k,y)
 β:G'.β=G.β
 R:G'.R=G.R
 dead:∀k,k∈ks→∃g,h'[k]?=some (g,.dead)
 live:∀k,k∈ks→∃g s ver es,h[k]?=some (g,.arr s ver false es)
 other:∀k,k∉ks→h'[k]?=h[k]?
 z:∀b,G'.Z b→G.Z b∨∃k,k∈ks∧∃ij,G.R (k,some ij)∧b=G.β (k,some ij)
theorem b5L(hr:s6 B Z0 G h w){hide:List Nat}{d:PV}{ks:List Nat}{h0:Heap}(am:∀k,k∈ks→h[k]?=h0[k]?)(P:one c=true)(q:j9 G h w D u c)(an:∀(k g s ver:Nat) (es:List PV),h0[k]?=some (g,Ob.arr s ver true es)→h[k]?=h0[k]?)
 (n:a4F (l7 h0 hide) c=some (d,ks)):∃G' m,s6 B Z0 G' (p8 h (kill (l7 h0 hide) ks)) w∧Ext G h w G' (p8 h (kill (l7 h0 hide) ks)) w∧a4A G h G' (p8 h (kill (l7 h0 hide) ks)) ks∧
  a2S G' (p8 h (kill (l7 h0 hide) ks)) w m u d∧∀k,m=some k↔k∈ks:=by
 have I:∀{d},ks=[]→one d=true→j9 G h w D u d→∃G' m,s6 B Z0 G' (p8 h (kill (l7 h0 hide) ks)) w∧Ext G h w G' (p8 h (kill (l7 h0 hide) ks)) w∧a4A G h G' (p8 h (kill (l7 h0 hide) ks)) ks∧
  a2S G' (p8 h (kill (l7 h0 hide) ks)) w m u d∧∀k,m=some k↔k∈ks:=fun{d} e o v=>by
  subst e;exact⟨G,none,hr,Ext.refl,⟨fun _ _ _=>C8.refl _ _,rfl,rfl,fun _ hm=>by simp at hm,fun _ hm=>by simp at hm,fun _ _=>rfl,fun _ hb=>.inl hb⟩,⟨o,v⟩,fun k=>k8⟩
 cases c
 case own k g ao s o l=>
  simp only[a4F]at n;split at n
  . rename_i r s' ver fr es J;split at n
    . rename_i A;obtain⟨rfl,p,rfl,rfl,rfl,hp⟩:=A;have ap:=P6 J k8;split at n
      . rename_i t;subst t;simp only[s5,s9]at n;obtain⟨rfl,rfl⟩:=n;have x:h[k]?=some (r,.arr s' ver true es):=(by grind);refine I rfl rfl (a0N ?_);have K:=hr.fz k r _ x rfl;have L:=hr.ob k r _ x;unfold F7 at L;obtain⟨aq,ar,au,Q,R⟩:=L;unfold D at q;unfold j9 at q;obtain⟨a,S,rfl,U,V,E,gn,ob,M,av,W⟩:=q;rw[x]at M;cases M;obtain⟨_,X⟩:=W rfl _ _ _ _ rfl;obtain⟨_,Y,Z⟩:=X p;by_cases z:G.R (root k)
        . obtain⟨us,T,aa,aw,ab⟩:=Q z;obtain⟨f,rfl,ax,ay,az⟩:=Y z;refine PR.U1.2 ⟨some ⟨G.β (root k),f,none⟩,S,s',by simp[p],by simpa[p]using U,V,fun e=>absurd e k8,fun i e he=>?_⟩;rw[H6]at he;obtain⟨F,H,rfl⟩:=C9.1 he;have hi:=(C0.1 H).1;obtain⟨ac,ad⟩:=ab i F H;rw[a5J];refine⟨by simpa using ac,_,_,rfl,K none z,fun j aA A=>?_⟩;rw[H6]at A;obtain⟨c0,N,rfl⟩:=C9.1 A;obtain⟨v,ae,af⟩:=ad j c0 N;have ag:(A7 c0||I7 c0)=true:=B5.1 (show(l6 F).all (fun c=>A7 c||I7 c)=true from B5.1 hp F (D0 H)) c0 (D0 N);obtain⟨ah,ai⟩:=a6q (Z':=G.Z) (fun b hb=>hb) (fun aj=>K _ aj) ag af;refine⟨ah,v,?_,ai⟩;rw[a1c aa];have ak:f=0:=j4;rw[ak,V5];exact ae
        . have he:=R z;subst he;obtain⟨rfl,_⟩:=Z z;simp at p;subst p;rcases E with⟨_,rfl⟩|⟨b,f,E⟩
          . exact PR.U1.2 ⟨none,0,0,rfl,p7 _,E0 _,fun _=>rfl,fun i e he=>by simp at he⟩
          . cases E
      . rename_i t;have t:fr=false:=(by simpa using t);subst t;simp only[s5,s9]at n;obtain⟨rfl,rfl⟩:=n;have x:h[k]?=some (r,.arr s' ver false es):=(by grind);obtain⟨a1,a2,a3⟩:=c4A hr x hp;have hu:p8 h (kill (l7 h0 hide) [k])=h.set k (r,.dead):=(by simp[p8,kill,J]);rw[hu];refine⟨_,some k,a1,a2,⟨fun C y O=>?_,rfl,rfl,fun C hm=>?_,fun C hm=>?_,fun C hm=>?_,fun b hb=>?_⟩,⟨_,rfl,a3 p j4 q⟩,fun C=>by simp;exact eq_comm⟩
        . simp at O;exact⟨rfl,Iff.rfl,rfl,by simp[Gh.a2P,O]⟩
        . grind
        . grind
        . grind
        . exact hb.imp id fun⟨ij,h1,al⟩=>⟨k,k8,ij,h1,al⟩
    . cases n
  . cases n
 all_goals
  simp only[a4F]at n
  first
   |(cases n;done)
   |(simp only[s5,s9]at n
     obtain⟨rfl,rfl⟩:=n;exact I rfl P q)
theorem a4A.trans{G1 G2:Gh}{h0 h1 d:Heap}{ls ks:List Nat}(a:a4A G h0 G1 h1 ls)(b:a4A G1 h1 G2 d ks)(hd:∀k,k∈ks→k∉ls):a4A G h0 G2 d (ls++ks):=by
 refine⟨fun k y c=>?_,b.β.trans a.β,b.R.trans a.R,fun k c=>?_,fun k c=>?_,fun k c=>?_,fun x h=>?_⟩
 . simp only[I5,not_or]at c;exact(a.same k y c.1).trans (b.same k y c.2)
 . by_cases h1:k∈ks
   . exact b.dead k h1
   . obtain⟨g,e⟩:=a.dead k ((I5.1 c).resolve_right h1);exact⟨g,(b.other k h1).trans e⟩
 . by_cases h1:k∈ls
   . exact a.live k h1
   . obtain⟨g,s,ver,es,e⟩:=b.live k ((I5.1 c).resolve_left h1);exact⟨g,s,ver,es,(a.other k h1).symm.trans e⟩
 . simp only[I5,not_or]at c;exact(b.other k c.2).trans (a.other k c.1)
 . rcases b.z x h with h1|⟨k,h1,ij,d,f⟩
   . rcases a.z x h1 with h1|⟨k,h1,ij,d,f⟩
     . exact .inl h1
     . grind
   . rw[a.R]at d;rw[a.β]at f;exact .inr ⟨k,by simp[h1],ij,d,f⟩
theorem b4a(lk:D8)(a b:List Nat):kill lk (a++b)=kill lk a++kill lk b:=by simp[kill]
theorem b3D{hide:List Nat}:∀{cs:List PV} {b:List PV} {ks:List Nat} {val:Nat→Value} {G:Gh} {h:Heap} {h0:Heap},s6 B Z0 G h w→(∀k,k∈ks→h[k]?=h0[k]?)→
 (∀(k g s ver:Nat) (es:List PV),h0[k]?=some (g,Ob.arr s ver true es)→h[k]?=h0[k]?)→(∀(t:Nat) c,cs[t]?=some c→one c=true∧j9 G h w D (val t) c)→
 a2b (l7 h0 hide) cs=some (b,ks)→∃(G':Gh) (mk:Nat→Option Nat),s6 B Z0 G' (p8 h (kill (l7 h0 hide) ks)) w∧Ext G h w G' (p8 h (kill (l7 h0 hide) ks)) w∧a4A G h G' (p8 h (kill (l7 h0 hide) ks)) ks∧b.length=cs.length∧
  (∀(t:Nat) d,b[t]?=some d→a2S G' (p8 h (kill (l7 h0 hide) ks)) w (mk t) (val t) d)∧(∀t k,mk t=some k→k∈ks∧t<b.length)∧(∀t f k,mk t=some k→mk f=some k→t=f)
 | [],b,ks,val,G,h,h0,hr,_,_,_,a=>by
  simp[a2b]at a;obtain⟨rfl,rfl⟩:=a;exact⟨G,fun _=>none,hr,Ext.refl,⟨fun _ _ _=>C8.refl _ _,rfl,rfl,fun _ hm=>by simp at hm,fun _ hm=>by simp at hm,fun _ _=>rfl,fun _ hb=>.inl hb⟩,rfl,fun t d hd=>by simp at hd,fun _ _ e=>absurd e k8,fun _ _ _ e=>absurd e k8⟩
 |c::cs,b,ks,val,G,h,h0,hr,o,i,p,a=>by
  simp only[a2b]at a;split at a
  . rename_i d v H ls j x;split at a
    . rename_i y;simp only[s5,s9]at a;obtain⟨rfl,rfl⟩:=a;have l:∀k,k∈v→k∉ls:=fun k n z=>by
       have:=B5.1 y k n;simp at this;exact this z
      obtain⟨G1,A,a1,a2,a3,a4,a5,a6,a7⟩:=b3D (val:=fun t=>val (t+1)) hr (fun k a=>o k (by simp[a])) i (fun t c j=>p (t+1) c (by simpa using j)) x;obtain⟨v1,v2⟩:=p 0 c rfl;obtain⟨G2,m,C,q,r,E,I⟩:=b5L a1 (fun k a=>(a3.other k (l k a)).trans (o k (by simp[a]))) v1 (v2.ext a2) (fun k g s ver es he=>by refine(a3.other k fun hm=>?_).trans (i k g s ver es he);obtain⟨J,s',K,es',u⟩:=a3.live k hm;rw[i k g s ver es he,he]at u;cases u) j
      rw[b4a,a3I];refine⟨G2,fun t=>match t with|0=>m|t+1=>A t,C,a2.trans q,a3.trans r l,by simp[a4],fun t F hd=>?_,fun t k he=>?_,fun t f k he L=>?_⟩
      . cases t with
        |zero=>simp at hd;subst hd;exact E
        |succ t=>
         refine(a5 t F (by simpa using hd)).ext q (fun k hm=>?_) (fun k hm _=>rfl);exact r.same k none fun n=>l k n (a6 t k hm).1
      . grind
      . grind
    . cases a
  . cases a
theorem b8g{m:Option Nat}{d:PV}(a:a2S G h w m u d):l6 d=[d]:=by
 cases m with
 |none=>have:=a.1;cases d<;>first|rfl|(simp[one,Y1]at this)
 |some k=>obtain⟨ns,rfl,_⟩:=a;rfl
theorem d0r{e:PV}{a:List PV}{mk:Nat→Option Nat}{val:Nat→Value}(b:a.length=(l6 e).length)(hd:∀(t:Nat) d,a[t]?=some d→a2S G h w (mk t) (val t) d):l6 (reE e a)=a:=by
 cases e
 case agg=>rfl
 all_goals
  match a,b,hd with
  | [d],_,hd=>exact b8g (hd 0 d rfl)
  | [],b,_=>simp[l6]at b
  |_::_::_,b,_=>simp[l6]at b
theorem b8E{hide:List Nat}:∀{es:List PV} {f:List PV} {ks:List Nat} {val:Nat→Nat→Value} {G:Gh} {h:Heap} {h0:Heap},s6 B Z0 G h w→(∀k,k∈ks→h[k]?=h0[k]?)→
 (∀(k g s ver:Nat) (es:List PV),h0[k]?=some (g,Ob.arr s ver true es)→h[k]?=h0[k]?)→(∀(i:Nat) e,es[i]?=some e→∀(t:Nat) c,(l6 e)[t]?=some c→one c=true∧j9 G h w D (val i t) c)→
 a3Q (l7 h0 hide) es=some (f,ks)→∃(G':Gh) (mk:Nat→Nat→Option Nat),s6 B Z0 G' (p8 h (kill (l7 h0 hide) ks)) w∧Ext G h w G' (p8 h (kill (l7 h0 hide) ks)) w∧a4A G h G' (p8 h (kill (l7 h0 hide) ks)) ks∧f.length=es.length∧
  (∀(i:Nat) d e,f[i]?=some d→es[i]?=some e→(l6 d).length=(l6 e).length∧∀(t:Nat) c,(l6 d)[t]?=some c→a2S G' (p8 h (kill (l7 h0 hide) ks)) w (mk i t) (val i t) c)∧
  (∀i t k,mk i t=some k→k∈ks∧i<f.length)∧(∀i t l m k,mk i t=some k→mk l m=some k→i=l∧t=m)
 | [],f,ks,val,G,h,h0,hr,_,_,_,a=>by
  simp[a3Q]at a;obtain⟨rfl,rfl⟩:=a;exact⟨G,fun _ _=>none,hr,Ext.refl,⟨fun _ _ _=>C8.refl _ _,rfl,rfl,fun _ hm=>by simp at hm,fun _ hm=>by simp at hm,fun _ _=>rfl,fun _ hb=>.inl hb⟩,rfl,fun t d e hd=>by simp at hd,fun _ _ _ e=>absurd e k8,fun _ _ _ _ _ e=>absurd e k8⟩
 |e::es,f,ks,val,G,h,h0,hr,q,n,r,a=>by
  simp only[a3Q]at a;split at a
  . rename_i d z O ls b A;split at a
    . rename_i C;simp only[s5,s9]at a;obtain⟨rfl,rfl⟩:=a;have o:∀k,k∈z→k∉ls:=fun k p E=>by
       have:=B5.1 C k p;simp at this;exact this E
      obtain⟨G1,F,a1,a2,a3,a4,a5,a6,a7⟩:=b8E (val:=fun i=>val (i+1)) hr (fun k a=>q k (by simp[a])) n (fun t c b=>r (t+1) c (by simpa using b)) A;unfold a7P at b;split at b
      . rename_i dd kk H;simp only[s5,s9]at b;obtain⟨rfl,rfl⟩:=b;obtain⟨G2,I,J,u,v,x,y,P,Q⟩:=b3D (val:=val 0) a1 (fun k a=>(a3.other k (o k a)).trans (q k (by simp[a]))) (fun k g s ver es he=>by
         refine(a3.other k fun hm=>?_).trans (n k g s ver es he);obtain⟨R,s',S,es',j⟩:=a3.live k hm;rw[n k g s ver es he,he]at j;cases j) (fun t c b=>by obtain⟨v1,v2⟩:=r 0 e rfl t c b;exact⟨v1,v2.ext a2⟩) H
        have K:=d0r x y;rw[b4a,a3I];refine⟨G2,fun i t=>match i with|0=>I t|i+1=>F i t,J,a2.trans u,a3.trans v o,by simp[a4],fun i L j hd he=>?_,fun i t k he=>?_,fun i t l m k he T=>?_⟩
        . cases i with
          |zero=>
           simp at hd he;subst hd;subst he;rw[K];exact⟨x,y⟩
          |succ i=>
           obtain⟨M,N⟩:=a5 i L j (by simpa using hd) (by simpa using he);refine⟨M,fun t c b=>(N t c b).ext u (fun k hm=>?_) (fun k hm _=>rfl)⟩;exact v.same k none fun p=>o k p (a6 i t k hm).1
        . grind
        . grind
      . cases b
    . cases a
  . cases a
theorem b8m(hr:s6 B Z0 G h w){ks:List Nat}(a:a4A G h G' h' ks)(d:k∈ks)(b:G.R (root k)):¬G'.Z (G'.β (root k)):=by
 intro c;rw[a.β]at c;obtain⟨g,s,ver,es,e⟩:=a.live k d;rcases a.z _ c with h1|⟨j,_,ij,f,i⟩
 . exact hr.nz k g _ e rfl none b h1
 . have:=hr.inj _ _ b f i;simp at this
end
end
section
variable{k i j b γ0:Nat}{mk:Nat→Nat→Option Nat}
def a9m(mk:Nat→Nat→Option Nat)(k:Nat):Prop:=∃i j,mk i j=some k
def a1t(k:Nat)(mk:Nat→Nat→Option Nat):Key→Key
 |(a,some (i,j))=>if a=k then(match mk i j with|some b=>root b|none=>(a,some (i,j)))else(a,some (i,j))
 |(a,none)=>(a,none)
def Gh.mv(G:Gh)(k b γ0:Nat)(mk:Nat→Nat→Option Nat):Gh:=
 {β:=fun key=>if key=root k then b else G.β (a1t k mk key)
  R:=fun key=>if key=root k then True else(key.2=none→¬a9m mk key.1)∧G.R (a1t k mk key)
  γ:=fun key=>if key=root k then γ0 else G.γ (a1t k mk key)
  σ:=fun key=>G.σ (a1t k mk key)
  Z:=G.Z}
section
variable{P:Program}{B:Nat}{Z0:Nat→Prop}{G G':Gh}{h h':Heap}{w w':World}
theorem a5s{a:Nat}{y:Option (Nat×Nat)}(b:a≠k):a1t k mk (a,y)=(a,y):=by
 cases y with
 |none=>rfl
 |some ij=>obtain⟨i,j⟩:=ij;simp[a1t,b]
theorem a1Y(hm:mk i j=none):a1t k mk (nest k i j)=nest k i j:=by simp[a1t,hm]
theorem a2h{a:Nat}(hm:mk i j=some a):a1t k mk (nest k i j)=root a:=by simp[a1t,hm]
theorem b1P{c:Nat}{y:Option (Nat×Nat)}(a:c≠k)(hm:y=none→¬a9m mk c):C8 G (G.mv k b γ0 mk) (c,y):=by
 have d:((c,y):Key)≠root k:=fun e=>a (congrArg Prod.fst e);refine⟨?_,?_,?_,?_⟩
 . simp only[Gh.mv,if_neg d,a5s a]
 . simp only[Gh.mv,if_neg d,a5s a];exact⟨fun x=>x.2,fun x=>⟨hm,x⟩⟩
 . simp only[Gh.mv,if_neg d,a5s a]
 . simp only[Gh.mv,a5s a]
theorem b2T(hm:mk i j=none):C8 G (G.mv k b γ0 mk) (nest k i j):=by
 have a:(nest k i j:Key)≠root k:=fun e=>by simp at e
 refine⟨?_,?_,?_,?_⟩<;>simp only[Gh.mv,if_neg a,a1Y hm]
 grind
theorem b9J{a:Nat}(hm:mk i j=some a):(G.mv k b γ0 mk).β (nest k i j)=G.β (root a)∧((G.mv k b γ0 mk).R (nest k i j)↔G.R (root a))∧(G.mv k b γ0 mk).γ (nest k i j)=G.γ (root a)∧(G.mv k b γ0 mk).σ (nest k i j)=G.σ (root a):=by
 have c:(nest k i j:Key)≠root k:=fun e=>by simp at e
 refine⟨?_,?_,?_,?_⟩<;>simp only[Gh.mv,if_neg c,a2h hm]
 grind
def b0v(G:Gh)(h:Heap)(w:World)(k i j:Nat)(m:Option Nat)(u:Value)(c:PV):Prop:=
 match m with
 |some a=>∃ns,c=.uslc ns∧O2 G w (root a) u ns
 |none=>G9 G h w k i j u c
theorem b5e(hr:s6 B Z0 G h w){g s ver ver':Nat}{es es':List PV}{us':Array Value}{T:TypeId}(A:h[k]?=some (g,.arr s ver false es))
 (E:(G.R (root k)∧b=G.β (root k)∧γ0=G.γ (root k))∨(b=w.heap.size∧es.length<es'.length))
 (Q:w'.heap[b]?=some (.cells us' T (0,0))) (hold:∀x,x<w.heap.size→x≠b→w'.heap[x]?=w.heap[x]?) (aa:w.heap.size≤w'.heap.size)
 (C:∀i j f,mk i j=some f→f≠k∧(∃g2,h[f]?=some (g2,.dead))∧(G.R (root f)→¬G.Z (G.β (root f)))) (ab:∀i j q r f,mk i j=some f→mk q r=some f→i=q∧j=r)
 (c1:us'.size=γ0*s) (c2:es'.length≤γ0) (c3:γ0≤maxLen) (c4:es.length≤es'.length) (c5:ver≤ver')
 (c6:ver'=ver→∀i j ns,cellAt es i j=some (.uslc ns)→∃F,cellAt es' i j=some (.uslc F)∧ns.length=F.length∧mk i j=none)
 (he:∀(i:Nat) e,es'[i]?=some e→(l6 e).length=s∧∀(j:Nat) c,(l6 e)[j]?=some c→∃u,us'[i*s+j]?=some u∧b0v G h w k i j (mk i j) u c):
 s6 B Z0 (G.mv k b γ0 mk) (h.set k (g,.arr s ver' false es')) w'∧Ext G h w (G.mv k b γ0 mk) (h.set k (g,.arr s ver' false es')) w':=by
 have R:k<h.length:=(C0.1 A).1;have S:=hr.ob k g _ A;unfold F7 at S;obtain⟨ac,aq,ar,au,av⟩:=S;have U:¬G.Z b:=by
  rcases E with⟨h1,rfl,_⟩|⟨rfl,_⟩
  . exact hr.nz k g _ A rfl none h1
  . intro ad;have:=(hr.zb _ ad).lt;omega
 have ae:B≤b:=by
  rcases E with⟨h1,rfl,_⟩|⟨rfl,_⟩
  . exact(hr.lv _ h1).1
  . exact hr.base
 have H:∀key,key≠root k→G.R key→G.β key≠b:=fun key o a e=>by
  rcases E with⟨h1,rfl,_⟩|⟨rfl,_⟩
  . exact o (hr.inj _ _ a h1 e)
  . have:=(hr.lv _ a).2.lt;omega
 have I:∀key,key≠root k→G.R key→w'.heap[G.β key]?=w.heap[G.β key]?:=fun key o a=>hold _ (hr.lv _ a).2.lt (H key o a);have aw:¬a9m mk k:=fun⟨i,j,hm⟩=>(C i j k hm).1 rfl;have V:∀n y,n≠k→b4f G (G.mv k b γ0 mk) h n y:=fun n y m=>by
  by_cases W:y=none∧a9m mk n
  . obtain⟨rfl,i,j,hm⟩:=W;refine .inr ⟨fun a=>?_,fun ax o' e=>?_⟩
    . have o:((n,none):Key)≠root k:=fun e=>m (congrArg Prod.fst e);simp only[Gh.mv,if_neg o]at a;exact a.1 trivial ⟨i,j,hm⟩
    . grind
  . exact .inl (b1P m fun e hm=>W ⟨e,hm⟩)
 have x:Ext G h w (G.mv k b γ0 mk) (h.set k (g,.arr s ver' false es')) w':=by
  refine⟨fun _ y=>y,fun x X=>hold x (hr.zb x X).lt fun e=>U (e▸X),fun n gn ob e=>?_⟩;by_cases m:n=k
  . subst m;rw[A]at e;cases e;refine⟨g,_,E8 R,p7 _,fun _=>⟨fun ay az aA l af=>?_,fun aB l=>(by cases l),fun _ _ _ l=>(by cases l)⟩⟩;cases af;refine⟨ver,false,es,rfl,c4,c5,fun aC=>?_,fun ag i j ns K=>?_⟩
    . rcases E with⟨h1,rfl,rfl⟩|⟨_,aD⟩
      . refine⟨by simp[Gh.mv],by simp[Gh.mv,h1],by simp[Gh.mv],by simp[Gh.mv,a1t]⟩
      . omega
    . obtain⟨F,L,M,N⟩:=c6 ag i j ns K;exact⟨F,L,M,b2T N⟩
  . refine⟨gn,ob,by rw[F4 (Ne.symm m)];exact e,p7 _,fun _=>?_⟩;by_cases hd:ob=.dead
    . subst hd;exact K7.dead _ _
    . exact K7.refl n ob ((V n none m).resolve_right fun y=>hd (y.2 gn ob e)) fun i j=>b1P m fun e=>by cases e
 refine⟨hr.update k g _ R x V (fun n y m a=>I _ (fun e=>m (congrArg Prod.fst e)) a) aa (fun b' Y=>(hr.zb b' Y).eq (x.zw b' Y)) (fun b hb=>.inl hb) (fun _ _ _ _ O=>O) ?_ (fun e=>by cases e) ?_,x⟩
 . intro y a;cases y with
   |none=>
    have D:(G.mv k b γ0 mk).β (k,none)=b:=(by simp[Gh.mv]);rw[D];refine⟨ae,U8.of Q,fun _=>U,fun v p e=>?_,fun n v m p e=>?_⟩
    . cases v with
      |none=>rfl
      |some ij=>
       obtain⟨i,j⟩:=ij;exfalso;have o:(nest k i j:Key)≠root k:=fun e=>(by simp at e);simp only[Gh.mv,if_neg o]at p e;refine H _ (fun t=>?_) p.2 e.symm;cases d:mk i j with
       |none=>rw[a1Y d]at t;exact o t
       |some f=>rw[a2h d]at t;exact(C i j f d).1 (congrArg Prod.fst t)
    . have o:((n,v):Key)≠root k:=fun e=>m (congrArg Prod.fst e);simp only[Gh.mv,if_neg o,a5s m]at p e;exact H _ o p.2 e.symm
   |some ij=>
    obtain⟨i,j⟩:=ij;have o:(nest k i j:Key)≠root k:=fun e=>(by simp at e);have D:(G.mv k b γ0 mk).β (nest k i j)=G.β (a1t k mk (nest k i j)):=(by simp[Gh.mv]);simp only[Gh.mv,if_neg o]at a;obtain⟨_,a⟩:=a;have Z:a1t k mk (nest k i j)≠root k:=fun t=>by
     cases d:mk i j with
     |none=>rw[a1Y d]at t;exact o t
     |some f=>rw[a2h d]at t;exact(C i j f d).1 (congrArg Prod.fst t)
    show B≤(G.mv k b γ0 mk).β (nest k i j)∧_;rw[D];obtain⟨l1,ah⟩:=hr.lv _ a;refine⟨l1,ah.eq (I _ Z a),fun _=>?_,fun v p e=>?_,fun n v m p e=>?_⟩
    . show¬G.Z _;cases d:mk i j with
      |none=>rw[a1Y d]at a⊢;exact hr.nz k g _ A rfl _ a
      |some f=>rw[a2h d]at a⊢;exact(C i j f d).2.2 a
    . cases v with
      |none=>
       exfalso;have:(G.mv k b γ0 mk).β (k,none)=b:=(by simp[Gh.mv]);rw[this]at e;exact H _ Z a e
      |some ai=>
       obtain⟨q,r⟩:=ai;have P:(nest k q r:Key)≠root k:=fun e=>(by simp at e);have aj:(G.mv k b γ0 mk).β (nest k q r)=G.β (a1t k mk (nest k q r)):=(by simp[Gh.mv]);simp only[Gh.mv,if_neg P]at p;have l:=hr.inj _ _ a p.2 (e.trans aj);cases d:mk i j with
       |none=>
        rw[a1Y d]at l;cases z:mk q r with
        |none=>rw[a1Y z]at l;exact congrArg Prod.snd l
        |some f=>rw[a2h z]at l;simp at l
       |some f=>
        rw[a2h d]at l;cases z:mk q r with
        |none=>rw[a1Y z]at l;simp at l
        |some ak=>
         rw[a2h z]at l;have:f=ak:=congrArg Prod.fst l;subst this;obtain⟨rfl,rfl⟩:=ab i j q r f d z;rfl
    . have P:((n,v):Key)≠root k:=fun e=>m (congrArg Prod.fst e);simp only[Gh.mv,if_neg P,a5s m]at p e;have l:=hr.inj _ _ a p.2 (by simpa using e);cases d:mk i j with
      |none=>rw[a1Y d]at l;exact m (congrArg Prod.fst l).symm
      |some f=>
       rw[a2h d]at l;have h1:f=n:=congrArg Prod.fst l;have al:none=v:=congrArg Prod.snd l;subst h1;exact p.1 al.symm ⟨i,j,d⟩
 . unfold F7;have D:(G.mv k b γ0 mk).β (root k)=b:=(by simp[Gh.mv]);have am:(G.mv k b γ0 mk).γ (root k)=γ0:=(by simp[Gh.mv]);have an:(G.mv k b γ0 mk).R (root k):=(by simp[Gh.mv]);rw[D,am];refine⟨ac,c2,c3,fun _=>⟨us',T,Q,c1,fun i e ao=>?_⟩,fun O=>absurd an O⟩;obtain⟨L,M⟩:=he i e ao;refine⟨L,fun j c K=>?_⟩;obtain⟨u,N,J⟩:=M j c K;refine⟨u,N,?_⟩;cases d:mk i j with
   |none=>
    rw[d]at J;exact G9.ext x (b2T d) (fun a=>I _ (fun e=>by simp at e) a) J
   |some f=>
    rw[d]at J;obtain⟨ns,rfl,ap⟩:=J;unfold G9;exact ap.ext x (b9J d) fun a=>I _ (fun e=>(C i j f d).1 (congrArg Prod.fst e)) a
end
end
section
variable{us:Array Value}{T:TypeId}{o k g j:Nat}{v:Value}
section
variable{P:Program}{B:Nat}{Z0:Nat→Prop}{G G':Gh}{h h':Heap}{w w':World}
def a0d(us:Array Value)(o:Nat)(vs:List Value):Array Value:=(us.toList.take o++vs++us.toList.drop (o+vs.length)).toArray
theorem a6f{vs:List Value}(a:o+vs.length≤us.size):(a0d us o vs).size=us.size:=by simp[a0d];omega
theorem a3U{vs:List Value}(a:o+vs.length≤us.size)(t:Nat):(a0d us o vs)[t]?=if o≤t∧t<o+vs.length then vs[t-o]? else us[t]?:=by
 unfold a0d
 grind
theorem b0Z{t:TypeId}{sz b:Nat}(hs:I9 P t=some sz)(c:v.cells.size=sz)(h1:∀u∈v.cells.toList,u.oneCell'=true)(hb:w.heap[b]?=some (.cells us T (0,0)))(d:o+sz≤us.size):
 (Instr.storeAt t (.pointer (some ⟨b,o,none⟩)) v).run P w=.ok () (w.setRow b (a0d us o v.cells.toList)):=by
 obtain⟨i,hi,rfl⟩:=a1Z hs;have a:=run_storeCells_at P b o T v.cells.toList 0 us w hb (by grind) h1;simp only[a4d]at a;simp[Instr.storeAt,Instr.sureAddr,storeVar,sizeOf,typeInfo,hi,c,a,a0d]
theorem b1w{R:Value→PV→Prop}{cs:List PV}(d:∀u c,R u c→u.oneCell'=true)(a:J4 R v.cells cs):∀u∈v.cells.toList,u.oneCell'=true:=by
 intro u hu;obtain⟨i,hi,rfl⟩:=a1I hu;have b:i<cs.length:=by rw[←a.1];simpa using hi
 obtain⟨u,h1,e⟩:=a.2 i _ (l9 b)
 grind
theorem c8N(w:World)(b:Nat)(cs:Array Value){es:Array MapEntry}{c:Nat}(hb:w.heap[b]?=some (.map es c)):(w.setRow b cs).heap[b]?=w.heap[b]?:=by simp[World.setRow,b5q,hb]
theorem U8.setRow{w:World}{b g:Nat}{cs:Array Value}(h:U8 w b):U8 (w.setRow g cs) b:=by
 obtain⟨o,hb,hd⟩:=h;by_cases e:b=g
 . subst e;cases o<;>first|(simp[isD]at hd;done)|skip
   case cells us T x=>exact U8.of (setRow_heap w b us cs T x hb)
   case map es c=>exact⟨.map es c,by rw[c8N w b cs hb];exact hb,rfl⟩
 . exact⟨o,(setRow_other w g b cs e).trans hb,hd⟩
theorem c7b(hr:s6 B Z0 G h w){cs f:List PV}{us':Array Value}(l:h[k]?=some (g,.var cs))(hb:w.heap[G.β (root k)]?=some (.cells us T (0,0)))(hu:J4 (fun v c=>one c=true∧j9 G h w D v c) us' f):
 s6 B Z0 G (h.set k (g,.var f)) (w.setRow (G.β (root k)) us')∧Ext G h w G (h.set k (g,.var f)) (w.setRow (G.β (root k)) us'):=by
 have r:k<h.length:=(C0.1 l).1;have s:=hr.ob k g _ l;unfold F7 at s;obtain⟨p,_⟩:=s;have x:Ext G h w G (h.set k (g,.var f)) (w.setRow (G.β (root k)) us'):=by
  refine⟨fun _ y=>y,fun b m=>setRow_other w _ _ _ fun e=>hr.nz k g _ l rfl none p (e▸m),fun n gn ob e=>?_⟩;by_cases a:n=k
  . subst a;rw[l]at e;cases e;refine⟨g,.var f,E8 r,p7 _,fun _=>⟨fun _ _ _ _ o=>?_,fun C o=>⟨cs,rfl,C8.refl _ _⟩,fun _ _ _ o=>(by cases o)⟩⟩;cases o
  . exact⟨gn,ob,by rw[F4 (Ne.symm a)];exact e,p7 _,fun _=>K7.refl n ob (C8.refl _ _) fun i j=>C8.refl _ _⟩
 refine⟨hr.update k g _ r x (fun _ _ _=>.inl (C8.refl _ _)) (fun n y a d=>setRow_other w _ _ _ fun e=>a (congrArg Prod.fst (hr.inj _ _ d p e))) (by simp[World.setRow]) (fun b m=>(hr.zb b m).eq (x.zw b m)) (fun b hb=>.inl hb) (fun _ _ _ _ t=>t) (fun y d=>?_) (fun e=>by cases e) ?_,x⟩
 . obtain⟨u,z⟩:=hr.lv _ d;exact⟨u,z.setRow,fun _=>hr.nz k g _ l rfl y d,fun A q e=>congrArg Prod.snd (hr.inj _ _ d q e),fun n A a q e=>a (congrArg Prod.fst (hr.inj _ _ d q e)).symm⟩
 . unfold F7;exact⟨p,us',T,setRow_heap w _ us us' T (0,0) hb,hu.mono fun v c y=>⟨y.1,y.2.ext x⟩⟩
theorem b6J(hr:s6 B Z0 G h w){s ver i:Nat}{es es':List PV}{ns z:List PV}{e d:PV}{us':Array Value}(A:h[k]?=some (g,.arr s ver false es))(he:es[i]?=some e)(L:(l6 e)[j]?=some (.uslc ns))
 (F:G.R (nest k i j)) (hb:w.heap[G.β (nest k i j)]?=some (.cells us T (0,0))) (Z:es'=es.set i d) (M:l6 d=(l6 e).set j (.uslc z)) (hlen:z.length=ns.length) (aa:us'.size=us.size)
 (N:∀(m:Nat) x,z[m]?=some x→(l6 x).length=G.σ (nest k i j)∧∀(l:Nat) c,(l6 x)[l]?=some c→one c=true∧∃v,us'[m*G.σ (nest k i j)+l]?=some v∧PR G.Z w v c):
 s6 B Z0 G (h.set k (g,.arr s ver false es')) (w.setRow (G.β (nest k i j)) us')∧Ext G h w G (h.set k (g,.arr s ver false es')) (w.setRow (G.β (nest k i j)) us'):=by
 subst Z;have U:k<h.length:=(C0.1 A).1;have hi:i<es.length:=(C0.1 he).1;have hj:j<(l6 e).length:=(C0.1 L).1;have ab:∀i0 a,(i0=i∧a=j)∨cellAt (es.set i d) i0 a=cellAt es i0 a:=fun i0 a=>by
  by_cases h1:i0=i
  . subst h1;by_cases p:a=j
    . exact .inl ⟨rfl,p⟩
    . right;simp only[cellAt,E8 hi,he,a5X,M,F4 (Ne.symm p)]
  . right;simp only[cellAt,F4 (Ne.symm h1)]
 have ac:cellAt (es.set i d) i j=some (.uslc z):=by simp only[cellAt,E8 hi,a5X,M,E8 hj]
 have ad:¬G.Z (G.β (nest k i j)):=hr.nz k g _ A rfl _ F;have x:Ext G h w G (h.set k (g,.arr s ver false (es.set i d))) (w.setRow (G.β (nest k i j)) us'):=by
  refine⟨fun _ y=>y,fun b H=>setRow_other w _ _ _ fun e=>ad (e▸H),fun I gn ob C=>?_⟩;by_cases r:I=k
  . subst r;rw[A]at C;cases C;refine⟨g,_,E8 U,p7 _,fun _=>⟨fun aG aH aI es' d=>?_,fun aJ d=>(by cases d),fun _ _ _ d=>(by cases d)⟩⟩;cases d;refine⟨ver,false,es,rfl,k8,p7 _,fun _=>C8.refl _ _,fun _ i0 a ae n=>?_⟩;rcases ab i0 a with⟨rfl,rfl⟩|h1
    . have:cellAt es i0 a=some (.uslc ns):=a4t he L;rw[this]at n;cases n;exact⟨z,ac,j4,C8.refl _ _⟩
    . exact⟨ae,h1.trans n,rfl,C8.refl _ _⟩
  . exact⟨gn,ob,by rw[F4 (Ne.symm r)];exact C,p7 _,fun _=>K7.refl I ob (C8.refl _ _) fun i j=>C8.refl _ _⟩
 have O:∀key,key≠nest k i j→G.R key→(w.setRow (G.β (nest k i j)) us').heap[G.β key]?=w.heap[G.β key]?:=fun key P o=>setRow_other w _ _ _ fun e=>P (hr.inj _ _ o F e);have V:=hr.ob k g _ A;unfold F7 at V;obtain⟨af,ag,ah,ai,aj⟩:=V;refine⟨hr.update k g _ U x (fun _ _ _=>.inl (C8.refl _ _)) (fun I y r o=>O _ (fun e=>r (congrArg Prod.fst e)) o) (by simp[World.setRow]) (fun b H=>(hr.zb b H).eq (x.zw b H)) (fun b hb=>.inl hb) (fun _ _ _ _ N=>N) (fun y o=>?_) (fun e=>by cases e) ?_,x⟩
 . obtain⟨ak,al⟩:=hr.lv _ o;exact⟨ak,al.setRow,fun _=>hr.nz k g _ A rfl y o,fun am Q e=>congrArg Prod.snd (hr.inj _ _ o Q e),fun I am r Q e=>r (congrArg Prod.fst (hr.inj _ _ o Q e)).symm⟩
 . unfold F7;refine⟨af,by simpa using ag,ah,fun W=>?_,fun R=>?_⟩
   . obtain⟨an,T0,ao,ap,X⟩:=ai W;refine⟨an,T0,by rw[O _ (fun e=>by simp at e) W];exact ao,ap,fun i0 C D=>?_⟩;have J:∀a c0 u0,cellAt es i0 a=some c0→¬(i0=i∧a=j)→G9 G h w k i0 a u0 c0→G9 G (h.set k (g,.arr s ver false (es.set i d))) (w.setRow (G.β (nest k i j)) us') k i0 a u0 c0:=fun a c0 u0 _ P J=>
      J.ext x (C8.refl _ _) fun o=>O _ (fun e=>P ⟨by simpa using congrArg (fun q:Key=>(q.2.map Prod.fst)) e,by simpa using congrArg (fun q:Key=>(q.2.map Prod.snd)) e⟩) o
     by_cases h1:i0=i
     . subst h1;rw[E8 hi]at D;cases D;obtain⟨S,K⟩:=X i0 e he;rw[M];refine⟨by simpa using S,fun a c0 n=>?_⟩;by_cases p:a=j
       . subst p;rw[E8 hj]at n;cases n;obtain⟨u,E,t⟩:=K a _ L;refine⟨u,E,?_⟩;unfold G9 O2 at t⊢;refine⟨fun _=>?_,fun R=>absurd F R⟩;obtain⟨aK,T1,f,c,aq,ar,au,av,aw,Y,ax,ay,aL⟩:=t.1 F;rw[hb]at Y;cases Y;refine⟨us',T,f,c,by rw[hlen];exact aq,ar,by rw[hlen];exact au,av,aw,setRow_heap w _ us us' T (0,0) hb,by rw[aa];exact ax,ay,fun m y az=>?_⟩;obtain⟨aA,aB⟩:=N m y az;refine⟨aA,fun l c aC=>?_⟩;obtain⟨aD,v,aE,aF⟩:=aB l c aC;exact⟨aD,v,aE,aF.mono x.zz x.zw⟩
       . rw[F4 (Ne.symm p)]at n;obtain⟨u,E,t⟩:=K a c0 n;exact⟨u,E,J a c0 u (a4t he n) (fun e=>p e.2) t⟩
     . rw[F4 (Ne.symm h1)]at D;obtain⟨S,K⟩:=X i0 C D;refine⟨S,fun a c0 n=>?_⟩;obtain⟨u,E,t⟩:=K a c0 n;exact⟨u,E,J a c0 u (a4t D n) (fun e=>h1 e.1) t⟩
   . have:=aj R;subst this;simp at hi
theorem a9Q{e:PV}{a:List PV}(b:j+a.length≤(l6 e).length)(h0:a≠ [])(hd:∀d,a=[d]→l6 e=[e]→l6 d=[d]):l6 (M4 e j a)=a1N (l6 e) j a:=by
 cases e
 case agg=>rfl
 all_goals
  simp only[l6,S9,a6U]at b
  match a,h0,b,hd with
  | [d],_,b,hd=>
   simp at b;subst b;rw[show M4 _ 0 [d]=d from rfl,hd d rfl rfl];rfl
  |d::c::a,_,b,_=>simp only[S9]at b;omega
theorem b7c{m:Option Nat}{u:Value}{d:PV}{i:Nat}(a:a2S G h w m u d):b0v G h w k i j m u d:=by
 cases m with
 |none=>obtain⟨b,c⟩:=a;cases d<;>first|(simp[one,Y1]at b;done)|(unfold b0v G9;exact⟨b,c⟩)
 |some e=>exact a
theorem a6r{w0 w:World}(hb:Bl B w0 w)(d:B≤g)(cs:Array Value){x:Nat×Nat}(b:w.heap[g]?=some (.cells us T x)):Bl B w0 (w.setRow g cs):=
 hb.trans ⟨⟨rfl,rfl,rfl,by simp[World.setRow],fun k a=>setRow_other w g k cs j4⟩,fun k o h1 c=>by
  by_cases a:k=g
  . subst a;rw[b]at h1;cases h1;cases c
  . rw[setRow_other w g k cs a];exact h1⟩
theorem b2R(hr:s6 B Z0 G h w){hide:List Nat}{t:TypeId}{sz:Nat}{a:Value}{ao pv:PV}{ws:List (Nat×Row)}(hs:I9 P t=some sz)(h0:sz≠0)(J:j9 G h w D a ao)(ap:j9 G h w D v pv)
 (n:a5b (l7 h hide) sz ao pv=some ws):Good P B Z0 G h w (do Instr.storeAt t a v;pure .skip) .uu ws:=by
 unfold a5b at n;split at n
 case isFalse=>cases n
 rename_i N;cases ao<;>(try (simp at n;done))<;>simp only[]at n
 case ptr k g o=>
  split at n
  . rename_i aD cs Z;split at n
    . rename_i p;obtain⟨rfl,hle,aa⟩:=p;simp only[s5]at n;subst n;have H:=P6 Z k8;unfold D at J;unfold j9 at J;obtain⟨b,rfl,gn,ob,h1,aE,K⟩:=J;rw[H]at h1;cases h1;obtain rfl:=K rfl cs rfl;have C:=hr.ob k _ _ H;unfold F7 at C;obtain⟨V,us,T,W,I⟩:=C;have z:=a4W ap aa;have E:v.cells.size=sz:=(by rw[z.1,N]);have aF:o+v.cells.toList.length≤us.size:=(by rw[I.1];simpa[E]using hle);have ab:=b0Z (P:=P) hs E (b1w (fun u c y=>a7C y.1 y.2) z) W (by rw[I.1];exact hle);obtain⟨t1,t2⟩:=a8r (l6 pv) cs o j4;have aS:J4 (fun v c=>one c=true∧j9 G h w D v c) (a0d us o v.cells.toList) (a1N cs o (l6 pv)):=by
       refine⟨by rw[a6f aF,t1,I.1],fun i c p=>?_⟩;rw[t2]at p;rw[a3U aF];have hlen:v.cells.toList.length=(l6 pv).length:=(by simp[z.1]);rw[hlen];split at p
       . rename_i L;rw[if_pos L];obtain⟨u,g1,g2⟩:=z.2 _ c p;exact⟨u,by simpa using g1,g2⟩
       . rename_i L;rw[if_neg L];exact I.2 i c p
      obtain⟨ac,ad⟩:=c7b hr H W aS;exact⟨_,undef,_,G,by simp[ab],.inr ⟨rfl,rfl⟩,ac,ad,K6,a6r (Bl.refl _ _) (hr.lv _ V).1 _ (by assumption)⟩
    . cases n
  . cases n
 case eptr k g bd s i j=>
  split at n
  . rename_i aD s' ver fr es Z;split at n
    . rename_i p;obtain⟨rfl,aT,rfl,rfl⟩:=p;split at n
      . rename_i e he;split at n
        . rename_i hle;split at n
          . rename_i F ks aG;split at n
            . cases n
            . rename_i ag;have ag:k∉ks:=(by simpa using ag);simp only[s5]at n;subst n;have H:=P6 Z k8;unfold D at J;unfold j9 at J;obtain⟨b,f,rfl,gn,ob,h1,aE,K⟩:=J;rw[H]at h1;cases h1;obtain⟨_,K⟩:=K rfl _ _ _ _ rfl;obtain⟨rfl,W,be⟩:=K aT;have aq:=W rfl;subst aq;have aa:(l6 pv).all one=true:=by
               refine B5.2 fun c p=>?_;have:∀{cs:List PV} {F:List PV} {ks:List Nat},a2b (l7 h hide) cs=some (F,ks)→∀c∈cs,one c=true:=by
                intro cs
                induction cs with
                |nil=>intro _ _ _ c p;simp at p
                |cons c0 cs aU=>
                 intro F ks n c p;simp only[a2b]at n;split at n
                 . rename_i aV aW;rcases Y8.1 p with rfl|p
                   . cases c<;>first|rfl|(simp[a4F]at aV)
                   . exact aU aW c p
                 . cases n
               exact this aG c p
              have z:=a4W ap aa;have E:v.cells.size=sz:=(by rw[z.1,N]);obtain⟨G1,mk,O,aX,X,aY,aH,ar,bf⟩:=b3D (val:=fun t=>(v.cells[t]?).getD undef) hr (fun _ _=>rfl) (fun _ _ _ _ _ _=>rfl) (fun t c p=>by obtain⟨u,r,A,Q⟩:=z.2 t c p;rw[r];exact⟨A,Q⟩) aG
              have R:=(X.other k ag).trans H;obtain⟨V,us,T,I,au,aI,av⟩:=a3t O R he;have aw:G1.β (root k)=G.β (root k):=(by rw[X.β]);rw[aw]at I;have S:i*s'+j+v.cells.toList.length≤us.size:=by have C:=O.ob k _ _ R;unfold F7 at C;rw[au];have:(i+1)*s'≤G1.γ (root k)*s':=a0h _ j4;rw[O5]at this;simp[E];omega
              have ab:=b0Z (P:=P) (o:=i*s'+j) hs E (b1w (fun u c y=>a7C y.1 y.2) z) I (by grind);have hdl:F.length=sz:=(by rw[aY,N]);have hi:i<es.length:=j4;have ah:l6 (M4 e j F)=a1N (l6 e) j F:=a9Q j4 (fun ax=>by rw[ax]at hdl;exact h0 hdl.symm) fun d hd _=>b8g (aH 0 d (by rw[hd];rfl));obtain⟨t1,t2⟩:=a8r F (l6 e) j j4;obtain⟨ac,ad⟩:=b5e (w':=w.setRow (G.β (root k)) (a0d us (i*s'+j) v.cells.toList)) (ver':=if(((l6 e).drop j).take sz).any I7||F.any I7 then ver+1 else ver) (es':=es.set i (M4 e j F)) (γ0:=G1.γ (root k)) (b:=G.β (root k))
               (mk:=fun a b=>if a=i∧j≤b then mk (b-j)else none) O R (.inl ⟨V,aw.symm,rfl⟩) (setRow_heap w _ us _ T (0,0) I) (fun x _ ai=>setRow_other w _ _ _ ai) k8
               (fun a b aj hm=>by
                try dsimp only at hm
                split at hm
                . obtain⟨r,A⟩:=ar _ _ hm;exact⟨fun e=>ag (e▸r),X.dead aj r,fun aJ=>b8m hr X r (by rw[X.R]at aJ;exact aJ)⟩
                . cases hm)
               (fun a b bg b' aj hm aZ=>by
                try dsimp only at hm aZ
                split at hm
                . grind
                . cases hm)
               (by rw[a6f S];exact au) (by
                have C:=O.ob k _ _ R;unfold F7 at C;simpa using C.2.1) (by
                have C:=O.ob k _ _ R;unfold F7 at C;exact C.2.2.1) k8 (by split<;>omega) (fun a0 a b ns ak=>by
                split at a0
                . omega
                . rename_i aK;simp only[a1j,not_or]at aK;obtain⟨a1,bh⟩:=aK;by_cases M:a=i
                  . subst M;simp only[cellAt,he,a5X]at ak;by_cases a2:j≤b∧b<j+F.length
                    . exfalso;apply a1;refine List.any_eq_true.2 ⟨.uslc ns,D0 (i:=b-j) ?_,rfl⟩;rw[a0H,if_pos j4,a2U,show j+(b-j)=b by omega];exact ak
                    . refine⟨ns,?_,rfl,?_⟩
                      . simp only[cellAt,E8 hi,a5X,ah,t2,if_neg a2];exact ak
                      . split
                        . rename_i q;cases ay:mk (b-j)with
                          |none=>rfl
                          |some aj=>exfalso;have:=(ar _ _ ay).2;omega
                        . rfl
                  . exact⟨ns,by simp only[cellAt,F4 (Ne.symm M)];exact ak,rfl,by simp[M]⟩)
               (fun a bi al=>by
                have C:=O.ob k _ _ R;by_cases M:a=i
                . subst M;rw[E8 hi]at al;cases al;rw[ah];refine⟨by rw[t1,aI],fun b c p=>?_⟩;rw[t2]at p;rw[a3U S];have ae:v.cells.toList.length=F.length:=(by grind);rw[ae];split at p
                  . rename_i L;rw[if_pos j4];have aL:=aH _ _ p;have Y:b-j<v.cells.size:=j4;refine⟨v.cells[b-j],by rw[show a*s'+b-(a*s'+j)=b-j by omega];simp[Y],?_⟩;rw[show((v.cells[b-j]?).getD undef)=v.cells[b-j]by simp[Y]]at aL;have a3:(if a=a∧j≤b then mk (b-j)else none)=mk (b-j):=if_pos ⟨rfl,L.1⟩
                    try dsimp only
                    rw[a3];exact b7c aL
                  . rename_i L;rw[if_neg j4];obtain⟨u,r,A⟩:=av b c p;refine⟨u,r,?_⟩;have:(if a=a∧j≤b then mk (b-j)else none)=none:=by
                     split
                     . cases ay:mk (b-j)with
                       |none=>rfl
                       |some aj=>exfalso;have:=(ar _ _ ay).2;omega
                     . rfl
                    try dsimp only
                    rw[this];exact A
                . rw[F4 (Ne.symm M)]at al;obtain⟨_,az,T2,af,aM,a4,p4⟩:=a3t O R al;rw[aw,I]at af;cases af;refine⟨a4,fun b c p=>?_⟩;obtain⟨u,r,A⟩:=p4 b c p;have a5:(if a=i∧j≤b then mk (b-j)else none)=none:=if_neg fun q=>M q.1
                  refine⟨u,?_,by try dsimp only
                                 rw[a5];exact A⟩
                  rw[a3U S,if_neg ?_]
                  . exact r
                  . have ae:v.cells.toList.length=sz:=(by simpa using E);have a6:b<s':=(by grind);rintro⟨a7,z2⟩;rcases b1Z M with Y|Y
                    . have:(a+1)*s'≤i*s':=a0h _ j4;rw[O5]at this;omega
                    . have:(i+1)*s'≤a*s':=a0h _ j4;rw[O5]at this;omega)
              refine⟨.skip,undef,w.setRow (G.β (root k)) (a0d us (i*s'+j) v.cells.toList),G1.mv k (G.β (root k)) (G1.γ (root k)) (fun a b=>if a=i∧j≤b then mk (b-j)else none),by simp[ab],.inr ⟨rfl,rfl⟩,?_,?_,K6,a6r (Bl.refl _ _) (hr.lv _ (by rw[X.R]at V;exact V)).1 _ (by assumption)⟩
              . rw[a3I];exact ac
              . rw[a3I];exact aX.trans ad
          . cases n
        . cases n
      . cases n
    . cases n
  . cases n
 case nptr k g ver s i j m l=>
  split at n
  . rename_i aD s0 ver' fr es Z;split at n
    . rename_i p;obtain⟨rfl,rfl,rfl⟩:=p;split at n
      . rename_i e he;split at n
        . rename_i ns am;split at n
          . rename_i x ai;split at n
            . rename_i a8;obtain⟨aN,hle,aA⟩:=a8;simp only[s5]at n;subst n;have H:=P6 Z k8;unfold D at J;unfold j9 at J;obtain⟨b,f,rfl,gn,ob,h1,aE,K⟩:=J;rw[H]at h1;cases h1;obtain⟨_,K⟩:=K rfl _ _ _ _ rfl;obtain⟨bj,aO,rfl,W,bk⟩:=K rfl;rw[a4t he am]at aO;cases aO;obtain⟨V,us,T,I,au,aI,av⟩:=a3t hr H he;obtain⟨u0,bl,aP⟩:=av j _ am;unfold G9 O2 at aP;have aB:G.R (nest k i j):=(by grind);obtain⟨az,T2,bm,bn,rfl,bo,bp,bq,br,aQ,a9,bs,aR⟩:=aP.1 aB;obtain⟨ba,bb⟩:=aR m x ai;have U:G.σ (nest k i j)=s:=(by rw[←ba,aN]);have aq:=W U;subst aq;have aa:(l6 pv).all one=true:=B5.2 fun c p=>a3C (B5.1 aA c p);have z:=a4W ap aa;have E:v.cells.size=sz:=(by rw[z.1,N]);have hm:m<ns.length:=(C0.1 ai).1;have S:m*s+l+v.cells.toList.length≤az.size:=by
               rw[a9,U];have:(m+1)*s≤G.γ (nest k i j)*s:=a0h _ j4;rw[O5]at this;simp[E];omega
              have ab:=b0Z (P:=P) (o:=m*s+l) hs E (b1w (fun u c y=>a7C y.1 y.2) z) aQ (by grind);obtain⟨t1,t2⟩:=a8r (l6 pv) (l6 x) l j4;have ah:l6 (M4 x l (l6 pv))=a1N (l6 x) l (l6 pv):=a9Q j4 (fun ax=>by rw[ax]at N;exact h0 N.symm) fun d hd _=>by have:d∈l6 pv:=(by rw[hd];simp);have:=B5.1 aA d this;cases d<;>first|rfl|(simp[A7]at this)
              have bc:l6 (M4 e j [.uslc (ns.set m (M4 x l (l6 pv)))])=(l6 e).set j (.uslc (ns.set m (M4 x l (l6 pv)))):=by have hj:=(C0.1 am).1;rw[a9Q F6 k8 (fun d hd _=>by simp at hd;subst hd;rfl)];rfl
              obtain⟨ac,ad⟩:=b6J (us':=a0d az (m*s+l) v.cells.toList) hr H he am aB aQ rfl bc k8 (a6f S) (fun a y an=>by
               rw[U];by_cases aC:a=m
               . subst aC;rw[E8 hm]at an;cases an;rw[ah];refine⟨by rw[t1,aN],fun t c p=>?_⟩;rw[t2]at p;rw[a3U S];have ae:v.cells.toList.length=(l6 pv).length:=(by rw[N];simpa using E);rw[ae];split at p
                 . rename_i L;rw[if_pos j4];obtain⟨u,r,A,Q⟩:=z.2 _ c p;exact⟨A,u,by rw[show a*s+t-(a*s+l)=t-l by omega];simpa using r,a4D (B5.1 aA c (D0 p)) Q⟩
                 . rename_i L;rw[if_neg j4];obtain⟨r,u,A,Q⟩:=bb t c p;exact⟨r,u,by rw[←U];exact A,Q⟩
               . rw[F4 (Ne.symm aC)]at an;obtain⟨af,aM⟩:=aR a y an;refine⟨by rw[af,U],fun t c p=>?_⟩;obtain⟨r,u,A,Q⟩:=aM t c p;refine⟨r,u,?_,Q⟩;rw[a3U S,if_neg ?_,←U]
                 . exact A
                 . have ae:v.cells.toList.length=sz:=(by simpa using E);have a6:t<s:=(by rw[←U,←af];exact(C0.1 p).1);rintro⟨a7,z2⟩;rcases b1Z aC with Y|Y
                   . have:(a+1)*s≤m*s:=a0h _ j4;rw[O5]at this;omega
                   . have:(m+1)*s≤a*s:=a0h _ j4;rw[O5]at this;omega)
              exact⟨.skip,undef,_,G,by simp[ab],.inr ⟨rfl,rfl⟩,ac,ad,K6,a6r (Bl.refl _ _) (hr.lv _ aB).1 _ (by assumption)⟩
            . cases n
          . cases n
        . cases n
      . cases n
    . cases n
  . cases n
end
end
section
variable{P:Program}{B:Nat}{Z0:Nat→Prop}{G G':Gh}{h h':Heap}{w w':World}
theorem b9W(hr:s6 B Z0 G h w){k g:Nat}{ob:Ob}(l:h[k]?=some (g,ob)):s6 B Z0 G (h.set k (g,.dead)) w∧Ext G h w G (h.set k (g,.dead)) w:=by
 have m:k<h.length:=(C0.1 l).1;have x:Ext G h w G (h.set k (g,.dead)) w:=by
  refine⟨fun _ y=>y,fun _ _=>rfl,fun c gn o e=>?_⟩;by_cases a:c=k
  . subst a;rw[l]at e;cases e;exact⟨g,.dead,E8 m,p7 _,fun _=>K7.dead _ _⟩
  . exact⟨gn,o,by rw[F4 (Ne.symm a)];exact e,p7 _,fun _=>K7.refl c o (C8.refl _ _) fun i j=>C8.refl _ _⟩
 refine⟨hr.update k g .dead m x (fun _ _ _=>.inl (C8.refl _ _)) (fun _ _ _ _=>rfl) (p7 _) hr.zb (fun b hb=>.inl hb) (fun _ _ _ _ n=>n) (fun y d=>?_) (fun e=>by cases e) trivial,x⟩;obtain⟨p,q⟩:=hr.lv _ d;exact⟨p,q,fun e=>absurd e (by simp[a7s]),fun r f e=>congrArg Prod.snd (hr.inj _ _ d f e),fun c r a f e=>a (congrArg Prod.fst (hr.inj _ _ d f e)).symm⟩
def Gh.a2C(G:Gh)(k:Nat):Gh:={G with Z:=fun b=>G.Z b∨∃ij,G.R (k,some ij)∧b=G.β (k,some ij),R:=fun key=>(key.1=k→key.2=none)∧G.R key}
theorem b6o(hr:s6 B Z0 G h w){k g s ver:Nat}{fr:Bool}{es:List PV}(l:h[k]?=some (g,.arr s ver fr es))(hp:es.all D9=true):
 s6 B Z0 (G.a2C k) (h.set k (g,.arr s (ver+1) fr (es.map B6))) w∧Ext G h w (G.a2C k) (h.set k (g,.arr s (ver+1) fr (es.map B6))) w:=by
 have z:k<h.length:=(C0.1 l).1;have p:∀f y,f≠k→C8 G (G.a2C k) (f,y):=fun f y d=>⟨rfl,⟨fun x=>x.2,fun x=>⟨fun e=>absurd e d,x⟩⟩,rfl,rfl⟩
 have F:C8 G (G.a2C k) (root k):=⟨rfl,⟨fun x=>x.2,fun x=>⟨fun _=>rfl,x⟩⟩,rfl,rfl⟩
 have A:=hr.ob k g _ l;unfold F7 at A;obtain⟨H,I,J,K,L⟩:=A;have x:Ext G h w (G.a2C k) (h.set k (g,.arr s (ver+1) fr (es.map B6))) w:=by
  refine⟨fun _ y=>.inl y,fun _ _=>rfl,fun f gn ob e=>?_⟩;by_cases d:f=k
  . subst d;rw[l]at e;cases e;refine⟨g,_,E8 z,p7 _,fun _=>⟨fun ad ae af es' m=>?_,fun ag m=>(by cases m),fun _ _ _ m=>(by cases m)⟩⟩;cases m;exact⟨ver,fr,es,rfl,k8,j4,fun _=>F,fun e=>j4⟩
  . exact⟨gn,ob,by rw[F4 (Ne.symm d)];exact e,p7 _,fun _=>K7.refl f ob (p _ _ d) fun i j=>p _ _ d⟩
 refine⟨hr.update k g _ z x (fun f y d=>.inl (p f y d)) (fun _ _ _ _=>rfl) (p7 _) ?_ (fun b hb=>hb.imp id fun⟨ij,h1,M⟩=>M▸(hr.lv _ h1).1) ?_ ?_ ?_ ?_,x⟩
 . rintro b (hb|⟨ij,a,rfl⟩)
   . exact hr.zb b hb
   . exact(hr.lv _ a).2
 . rintro f y d a q (hb|⟨ij,r,he⟩)
   . exact q hb
   . exact d (congrArg Prod.fst (hr.inj _ _ a r he))
 . intro y a;obtain⟨N,O⟩:=hr.lv (k,y) a.2;have P:y=none:=a.1 rfl;subst P;refine⟨N,O,fun Q=>?_,fun R n he=>congrArg Prod.snd (hr.inj _ _ a.2 n.2 he),fun f R d n he=>d (congrArg Prod.fst (hr.inj _ _ a.2 n.2 he)).symm⟩;rintro(hb|⟨ij,r,he⟩)
   . exact hr.nz k g _ l Q none a.2 hb
   . have:=hr.inj _ _ a.2 r he;simp at this
 . intro S y a;exact .inl (hr.fz k g _ l S y a.2)
 . unfold F7;refine⟨H,by rw[O0];exact I,J,fun a=>?_,fun q=>by rw[L fun y=>q ⟨fun _=>rfl,y⟩];rfl⟩;obtain⟨us,T,U,V,W⟩:=K a.2;refine⟨us,T,U,V,fun i e he=>?_⟩;rw[H6]at he;obtain⟨t,C,rfl⟩:=C9.1 he;obtain⟨X,Y⟩:=W i t C;rw[a5J];refine⟨by simpa using X,fun j c D=>?_⟩;rw[H6]at D;obtain⟨c0,E,rfl⟩:=C9.1 D;obtain⟨u,Z,aa⟩:=Y j c0 E;have ab:(A7 c0||I7 c0)=true:=B5.1 (show(l6 t).all (fun c=>A7 c||I7 c)=true from B5.1 hp t (D0 C)) c0 (D0 E);obtain⟨o,ac⟩:=a6q (Z':=(G.a2C k).Z) (fun b hb=>.inl hb) (fun n=>.inr ⟨(i,j),n,rfl⟩) ab aa;refine⟨u,Z,?_⟩;have v:=a1x (G:=G.a2C k) (h:=h.set k (g,.arr s (ver+1) fr (es.map B6))) o ac;revert o v;cases K5 c0<;>intro o v<;>first|(simp[one,Y1]at o;done)|(unfold G9;exact⟨o,v⟩)
def Gh.a2L(G:Gh)(k:Nat):Gh:={G with Z:=fun b=>G.Z b∨∃y,G.R (k,y)∧b=G.β (k,y),R:=fun key=>(key.1=k→key.2=none)∧G.R key}
theorem b8B(hr:s6 B Z0 G h w){k g s ver:Nat}{fr:Bool}{es:List PV}(o:h[k]?=some (g,.arr s ver fr es))(hp:es.all D9=true):
 s6 B Z0 (G.a2L k) (h.set k (g,.arr s (ver+1) true (es.map B6))) w∧Ext G h w (G.a2L k) (h.set k (g,.arr s (ver+1) true (es.map B6))) w:=by
 have v:k<h.length:=(C0.1 o).1;have p:∀f y,f≠k→C8 G (G.a2L k) (f,y):=fun f y a=>⟨rfl,⟨fun x=>x.2,fun x=>⟨fun e=>absurd e a,x⟩⟩,rfl,rfl⟩
 have E:C8 G (G.a2L k) (root k):=⟨rfl,⟨fun x=>x.2,fun x=>⟨fun _=>rfl,x⟩⟩,rfl,rfl⟩
 have z:=hr.ob k g _ o;unfold F7 at z;obtain⟨F,H,I,J,K⟩:=z;have x:Ext G h w (G.a2L k) (h.set k (g,.arr s (ver+1) true (es.map B6))) w:=by
  refine⟨fun _ y=>.inl y,fun _ _=>rfl,fun f gn ob e=>?_⟩;by_cases a:f=k
  . subst a;rw[o]at e;cases e;refine⟨g,_,E8 v,p7 _,fun _=>⟨fun ac ad ae es' l=>?_,fun af l=>(by cases l),fun _ _ _ l=>(by cases l)⟩⟩;cases l;exact⟨ver,fr,es,rfl,k8,j4,fun _=>E,fun e=>j4⟩
  . exact⟨gn,ob,by rw[F4 (Ne.symm a)];exact e,p7 _,fun _=>K7.refl f ob (p _ _ a) fun i j=>p _ _ a⟩
 refine⟨hr.update k g _ v x (fun f y a=>.inl (p f y a)) (fun _ _ _ _=>rfl) (p7 _) ?_ (fun b hb=>hb.imp id fun⟨ij,h1,L⟩=>L▸(hr.lv _ h1).1) ?_ ?_ ?_ ?_,x⟩
 . rintro b (hb|⟨ij,d,rfl⟩)
   . exact hr.zb b hb
   . exact(hr.lv _ d).2
 . rintro f y a d q (hb|⟨ij,M,he⟩)
   . exact q hb
   . exact a (congrArg Prod.fst (hr.inj _ _ d M he))
 . intro y d;obtain⟨N,O⟩:=hr.lv (k,y) d.2;have P:y=none:=d.1 rfl;subst P;exact⟨N,O,fun Q=>by(simp[a7s]at Q),fun R m he=>congrArg Prod.snd (hr.inj _ _ d.2 m.2 he),fun f R a m he=>a (congrArg Prod.fst (hr.inj _ _ d.2 m.2 he)).symm⟩
 . intro ag y d;exact .inr ⟨y,d.2,rfl⟩
 . unfold F7;refine⟨F,by rw[O0];exact H,I,fun d=>?_,fun q=>by rw[K fun y=>q ⟨fun _=>rfl,y⟩];rfl⟩;obtain⟨us,T,S,U,V⟩:=J d.2;refine⟨us,T,S,U,fun i e he=>?_⟩;rw[H6]at he;obtain⟨r,A,rfl⟩:=C9.1 he;obtain⟨W,X⟩:=V i r A;rw[a5J];refine⟨by simpa using W,fun j c C=>?_⟩;rw[H6]at C;obtain⟨c0,D,rfl⟩:=C9.1 C;obtain⟨u,Y,Z⟩:=X j c0 D;have aa:(A7 c0||I7 c0)=true:=B5.1 (show(l6 r).all (fun c=>A7 c||I7 c)=true from B5.1 hp r (D0 A)) c0 (D0 D);obtain⟨n,ab⟩:=a6q (Z':=(G.a2L k).Z) (fun b hb=>.inl hb) (fun m=>.inr ⟨some (i,j),m,rfl⟩) aa Z;refine⟨u,Y,?_⟩;have t:=a1x (G:=G.a2L k) (h:=h.set k (g,.arr s (ver+1) true (es.map B6))) n ab;revert n t;cases K5 c0<;>intro n t<;>first|(simp[one,Y1]at n;done)|(unfold G9;exact⟨n,t⟩)
structure Src(G:Gh)(h:Heap)(w:World)(vx:Value)(sz:Nat)(news:List PV)(V:Nat→Value)(mk:Nat→Nat→Option Nat):Prop where
 shape:∃a c,vx=.slice a news.length c∧(news.length=0∨∃b f,a=some ⟨b,f,none⟩∧∀q,q<news.length*sz→w.cell? ⟨b,f+q,none⟩=some (V q))
 cells:∀(i:Nat) d,news[i]?=some d→(l6 d).length=sz∧∀(t:Nat) c,(l6 d)[t]?=some c→a2S G h w (mk i t) (V (i*sz+t)) c
theorem div_lt{q n sz:Nat}(a:q<n*sz):q/sz<n:=by
 rcases Nat.eq_zero_or_pos sz with rfl|h0
 . omega
 . exact(Nat.div_lt_iff_lt_mul h0).2 a
theorem a6u{vx:Value}{sz:Nat}{news:List PV}{a:Option Addr}{c b f:Nat}(k:vx=.slice a news.length c)(l:news.length=0∨a=some ⟨b,f,none⟩)
 (j:∀(i:Nat) d,news[i]?=some d→(l6 d).length=sz∧∀(t:Nat) x,(l6 d)[t]?=some x→∃u,w.cell? ⟨b,f+(i*sz+t),none⟩=some u∧one x=true∧j9 G h w D u x):
 Src G h w vx sz news (fun q=>(w.cell? ⟨b,f+q,none⟩).getD undef) (fun _ _=>none):=by
 refine⟨⟨a,c,k,l.imp id fun e=>⟨b,f,e,fun q m=>?_⟩⟩,fun i d hd=>⟨(j i d hd).1,fun t x n=>?_⟩⟩
 . have o:=div_lt m;obtain⟨d,hd⟩:∃d,news[q/sz]?=some d:=⟨news[q/sz],l9 o⟩
   obtain⟨h1,p⟩:=j _ d hd;have h0:0<sz:=(by grind);have hm:q%sz<(l6 d).length:=(by rw[h1];exact Nat.mod_lt _ h0);obtain⟨u,g,_⟩:=p (q%sz) _ (l9 hm);rw[show q/sz*sz+q%sz=q by rw[Nat.mul_comm];exact Nat.div_add_mod q sz]at g;rw[g];rfl
 . obtain⟨u,g,r,s⟩:=(j i d hd).2 t x n;show a2S G h w none ((w.cell? ⟨b,f+(i*sz+t),none⟩).getD undef) x;rw[g];exact⟨r,s⟩
theorem c2w{c:PV}(hp:A7 c=true):K5 c=c:=by cases c<;>first|rfl|(simp[A7]at hp)
theorem c5o{e:PV}(hp:(l6 e).all A7=true):B6 e=e:=by
 cases e
 case agg cs=>
  show PV.agg (cs.map K5)=.agg cs;congr 1
  conv=>rhs;rw[←List.map_id cs]
  exact O1 fun c a=>c2w (B5.1 hp c a)
 case uslc=>simp[l6,A7]at hp
 case nils=>simp[l6,A7]at hp
 all_goals rfl
theorem a4b{sz:Nat}{news:List PV}(a:a3w sz news=true){i:Nat}{d:PV}(hd:news[i]?=some d):(l6 d).length=sz:=by have:=B5.1 a d (D0 hd);simpa using this
theorem b5n(hr:s6 B Z0 G h w){hide:List Nat}{mode sz:Nat}{vx:Value}{ao:PV}{news:List PV}{ws:List (Nat×Row)}(aY:mode≠5)(J:j9 G h w D vx ao)(C:a3w sz news=true)(m:a1P (l7 h hide) mode ao=some (news,ws)):
 ∃G1 V mk,s6 B Z0 G1 (p8 h ws) w∧Ext G h w G1 (p8 h ws) w∧Src G1 (p8 h ws) w vx sz news V mk∧(∀k,k∉ws.map (·.1)→(p8 h ws)[k]?=h[k]?)∧
  (∀i t n,mk i t=some n→i<news.length∧n∈ws.map (·.1)∧(∃g2,(p8 h ws)[n]?=some (g2,.dead))∧(G1.R (root n)→¬G1.Z (G1.β (root n))))∧(∀i t Z aa n,mk i t=some n→mk Z aa=some n→i=Z∧t=aa)∧
  (∀k,k∉ws.map (·.1)→(G1.R (root k)↔G.R (root k))∧G1.β (root k)=G.β (root k)∧G1.γ (root k)=G.γ (root k)):=by
 have R:∀{V},ws=[]→Src G h w vx sz news V (fun _ _=>none)→∃G1 V mk,s6 B Z0 G1 (p8 h ws) w∧Ext G h w G1 (p8 h ws) w∧Src G1 (p8 h ws) w vx sz news V mk∧(∀k,k∉ws.map (·.1)→(p8 h ws)[k]?=h[k]?)∧
  (∀i t n,mk i t=some n→i<news.length∧n∈ws.map (·.1)∧(∃g2,(p8 h ws)[n]?=some (g2,.dead))∧(G1.R (root n)→¬G1.Z (G1.β (root n))))∧(∀i t Z aa n,mk i t=some n→mk Z aa=some n→i=Z∧t=aa)∧
  (∀k,k∉ws.map (·.1)→(G1.R (root k)↔G.R (root k))∧G1.β (root k)=G.β (root k)∧G1.γ (root k)=G.γ (root k)):=fun{V} e hs=>by
  subst e;exact⟨G,V,fun _ _=>none,hr,Ext.refl,hs,fun _ _=>rfl,fun _ _ _ e=>absurd e k8,fun _ _ _ _ _ e=>absurd e k8,fun _ _=>⟨Iff.rfl,rfl,rfl⟩⟩
 unfold a1P at m;rw[if_neg aY]at m;cases ao<;>(try (simp[a2R]at m;done))
 case slc es=>
  simp only[a2R,s5,s9]at m;obtain⟨rfl,rfl⟩:=m;obtain⟨a,c,bu,rfl,aB,aC,bv,ap⟩:=PR.U1.1 (a3n J);by_cases aD:es.length=0
  . exact R rfl (a6u (b:=0) (f:=0) rfl (.inl aD) fun i d hd=>by rw[a0U.1 aD]at hd;simp at hd)
  . obtain⟨aZ,a0⟩:∃e,es[0]?=some e:=⟨es[0],l9 j4⟩
    obtain⟨a1,b,o,rfl,_⟩:=ap 0 aZ a0;refine R rfl (a6u (b:=b) (f:=o) rfl (.inr rfl) fun i d hd=>⟨a4b C hd,fun t x v=>?_⟩);obtain⟨aE,b',o',aq,aF,ah⟩:=ap i d hd;cases aq;obtain⟨S,u,aG,aH⟩:=ah t x v;exact⟨u,by rw[←a4b C hd,aE];exact aG,S,a1x S aH⟩
 case nils=>
  simp only[a2R,s5,s9]at m;obtain⟨rfl,rfl⟩:=m;obtain rfl:=a0k J;exact R rfl (a6u (b:=0) (f:=0) (a:=none) (c:=0) rfl (.inl rfl) fun i d hd=>by simp at hd)
 case own k g bw s o l=>
  simp only[a2R]at m;split at m
  . rename_i ai s' ver fr es aj;split at m
    . rename_i p;obtain⟨rfl,a2,rfl,bx⟩:=p;have K:=P6 aj k8;have aI:=hr.ob k _ _ K;unfold F7 at aI;obtain⟨bz,bA,bB,bC,bD⟩:=aI;unfold D at J;unfold j9 at J;obtain⟨a,c,rfl,a3,a4,a5,gn,ob,ab,a6,ar⟩:=J;rw[K]at ab;cases ab;obtain⟨_,au⟩:=ar rfl _ _ _ _ rfl;obtain⟨_,a7,aJ⟩:=au a2;have a8:((es.drop o).take l).length=l:=F6;have M:l=0∨∃f us T,G.R (root k)∧a=some ⟨G.β (root k),f,none⟩∧(f=o*s')∧w.heap[G.β (root k)]?=some (.cells us T (0,0))∧us.size=G.γ (root k)*s'∧∀(i:Nat) e,es[i]?=some e→(l6 e).length=s'∧∀(j:Nat) c,(l6 e)[j]?=some c→∃u,us[i*s'+j]?=some u∧G9 G h w k i j u c:=(by grind);split at m
      ·
       split at m
       . rename_i y ks aK;split at m
         . cases m
         . rename_i ak;have ak:k∉ks:=(by simpa using ak);simp only[s5,s9]at m;obtain⟨rfl,rfl⟩:=m;have a9:∀(i:Nat) e,((es.drop o).take l)[i]?=some e→∀(t:Nat) c,(l6 e)[t]?=some c→one c=true∧j9 G h w D ((w.cell? ⟨G.β (root k),(o+i)*s'+t,none⟩).getD undef) c:=fun i e he t c p=>by
            have r:i<l:=(by grind);rw[a0H,if_pos r,a2U]at he;obtain⟨f,us,T,N,_,_,I,O,z⟩:=M.resolve_left j4;obtain⟨u,av,ac⟩:=(z _ e he).2 t c p;rw[a1c I,av];have aw:one c=true:=by
             have:∀{cs:List PV} {y:List PV} {ks:List Nat},a2b (l7 h hide) cs=some (y,ks)→∀c∈cs,one c=true:=by
              intro cs
              induction cs with
              |nil=>intro _ _ _ c p;simp at p
              |cons c0 cs ax=>
               intro y ks m c p;simp only[a2b]at m;split at m
               . rename_i P ay;rcases Y8.1 p with rfl|p
                 . cases c<;>first|rfl|(simp[a4F]at P)
                 . exact ax ay c p
               . cases m
             have aB:∀{es y:List PV} {ks:List Nat},a3Q (l7 h hide) es=some (y,ks)→∀e∈es,∃y ks,a2b (l7 h hide) (l6 e)=some (y,ks):=by
              intro es
              induction es with
              |nil=>intro _ _ _ c p;simp at p
              |cons c0 cs ax=>
               intro y ks m c p;simp only[a3Q]at m;split at m
               . rename_i P ay;rcases Y8.1 p with rfl|p
                 . unfold a7P at P;split at P
                   . exact⟨_,_,by assumption⟩
                   . cases P
                 . exact ax ay c p
               . cases m
             have ba:e∈(es.drop o).take l:=D0 (i:=i) (by grind);obtain⟨bE,ks',aC⟩:=aB aK e ba;exact this aC c (D0 p)
            cases c<;>first|(simp[one,Y1]at aw;done)|(unfold G9 at ac;exact ac)
           obtain⟨G1,mk,aq,bb,U,bc,aL,bd,be⟩:=b8E (val:=fun i t=>(w.cell? ⟨G.β (root k),(o+i)*s'+t,none⟩).getD undef) hr (fun _ _=>rfl) (fun _ _ _ _ _ _=>rfl) a9 aK;obtain⟨al,am⟩:=b9W aq ((U.other k ak).trans K);have bf:p8 h (kill (l7 h hide) (ks++[k]))=(p8 h (kill (l7 h hide) ks)).set k (ai,.dead):=by rw[b4a,a3I];simp[p8,kill,aj]
           have bg:(kill (l7 h hide) (ks++[k])).map (·.1)=ks++[k]:=(by simp[kill,Function.comp_def]);rw[bf,bg];have hlen:y.length=l:=(by rw[bc,a8]);refine⟨G1,fun q=>(w.cell? ⟨G.β (root k),o*s'+q,none⟩).getD undef,mk,al,bb.trans am,?_,?_,?_,be,?_⟩
           . refine⟨⟨a,c,by rw[hlen],?_⟩,fun i d hd=>?_⟩
             . rw[hlen];by_cases E:l=0
               . exact .inl E
               . right
                 obtain⟨f,us,T,N,L,F,I,O,z⟩:=M.resolve_left E;obtain⟨d0,aM⟩:∃d,y[0]?=some d:=⟨y[0],l9 j4⟩
                 have W:sz=s':=by
                  rw[←a4b C aM];obtain⟨ad,Q⟩:∃e,((es.drop o).take l)[0]?=some e:=⟨((es.drop o).take l)[0],l9 j4⟩
                  rw[(aL 0 d0 ad aM Q).1];rw[a0H,if_pos j4,a2U]at Q;exact(z _ ad Q).1
                 refine⟨_,f,L,fun q bh=>?_⟩;rw[F,a1c I];have bi:o*s'+q<us.size:=by rw[O];have ah:(o+l)*s'≤G.γ (root k)*s':=a0h _ j4;rw[O5]at ah;rw[W]at bh;omega
                 simp[bi]
             . refine⟨a4b C hd,fun t aN bj=>?_⟩;have r:i<l:=(by rw[←hlen];exact(C0.1 hd).1);obtain⟨ad,Q⟩:∃e,((es.drop o).take l)[i]?=some e:=⟨((es.drop o).take l)[i],l9 j4⟩
               obtain⟨aO,X⟩:=aL i d ad hd Q;rw[a0H,if_pos r,a2U]at Q;obtain⟨f,us,T,N,L,F,I,O,z⟩:=M.resolve_left j4;have W:sz=s':=(by rw[←a4b C hd,aO];exact(z _ ad Q).1);have aP:=X t aN bj;rw[show(o+i)*s'+t=o*s'+(i*sz+t)by rw[W,O5];omega]at aP;refine aP.ext am (fun n hm=>C8.refl _ _) (fun n hm _=>rfl)
           . intro ae A;simp only[I5,H5,not_or]at A;rw[F4 (Ne.symm A.2)];exact U.other ae A.1
           . intro i t n hm;obtain⟨H,Y⟩:=bd i t n hm;have bk:n≠k:=fun e=>ak (e▸H);refine⟨Y,by simp[H],?_,fun aQ=>b8m hr U H (by rw[U.R]at aQ;exact aQ)⟩;obtain⟨g2,bl⟩:=U.dead n H;exact⟨g2,by rw[F4 (Ne.symm bk)];exact bl⟩
           . intro ae A;simp only[I5,H5,not_or]at A;obtain⟨H,Y,af,_⟩:=U.same ae none A.1;exact⟨Y,H,af⟩
       . cases m
      . split at m
        . rename_i an;obtain⟨an,_⟩:=an;simp only[s5,s9]at m;obtain⟨rfl,az⟩:=m;have hlen:(((es.drop o).take l).map B6).length=l:=F6;have aR:∀(i:Nat) d,(((es.drop o).take l).map B6)[i]?=some d→∃e,es[o+i]?=some e∧d=B6 e∧i<l:=fun i d hd=>by
           have r:i<l:=(by rw[←hlen];exact(C0.1 hd).1);rw[H6,a0H,if_pos r,a2U]at hd;obtain⟨e,he,rfl⟩:=C9.1 hd;exact⟨e,he,rfl,r⟩
          have W:∀{i:Nat} {e:PV},es[o+i]?=some e→i<l→sz=s':=fun{i e} he r=>by
           obtain⟨f,us,T,N,L,F,I,O,z⟩:=M.resolve_left j4;have hd:(((es.drop o).take l).map B6)[i]?=some (B6 e):=by rw[H6,a0H,if_pos r,a2U,he];rfl
           rw[←a4b C hd,a5J,O0];exact(z _ e he).1
          split at az
          . rename_i aS;subst az;refine R rfl (a6u (b:=G.β (root k)) (f:=o*s') (a:=a) (c:=c) (by rw[hlen]) ?_ fun i d hd=>⟨a4b C hd,fun t x v=>?_⟩)
            . rw[hlen];by_cases E:l=0
              . exact .inl E
              . obtain⟨f,us,T,N,L,F,I,O,z⟩:=M.resolve_left E;exact .inr (by rw[L,F])
            . obtain⟨e,he,rfl,r⟩:=aR i d hd;obtain⟨f,us,T,N,L,F,I,O,z⟩:=M.resolve_left j4;rw[c5o (B5.1 aS e (D0 he))]at v;obtain⟨u,av,ac⟩:=(z _ e he).2 t x v;have ag:A7 x=true:=B5.1 (B5.1 aS e (D0 he)) x (D0 v);have aw:=a3C ag;refine⟨u,?_,aw,?_⟩
              . rw[a1c I,W he r,show o*s'+(i*s'+t)=(o+i)*s'+t by rw[O5];omega];exact av
              . cases x<;>first|(simp[A7]at ag;done)|(unfold G9 at ac;exact ac.2)
          . subst az;obtain⟨al,am⟩:=b6o hr K an;refine⟨G.a2C k,_,fun _ _=>none,al,am,a6u (b:=G.β (root k)) (f:=o*s') (a:=a) (c:=c) (by rw[hlen]) ?_ (fun i d hd=>⟨a4b C hd,fun t x v=>?_⟩),fun ae A=>?_,fun _ _ _ e=>absurd e k8,fun _ _ _ _ _ e=>absurd e k8,fun ae A=>?_⟩
            . rw[hlen];by_cases E:l=0
              . exact .inl E
              . obtain⟨f,us,T,N,L,F,I,O,z⟩:=M.resolve_left E;exact .inr (by rw[L,F])
            . obtain⟨e,he,rfl,r⟩:=aR i d hd;have bm:(h.set k (ai,Ob.arr s' (ver+1) fr (es.map B6)))[k]?=some (ai,Ob.arr s' (ver+1) fr (es.map B6)):=E8 (C0.1 K).1;have bn:(es.map B6)[o+i]?=some (B6 e):=(by rw[H6,he];rfl);obtain⟨_,us,T,H,Y,af,p4⟩:=a3t al bm bn;obtain⟨u,aA,aT⟩:=p4 t x v;have ag:A7 x=true:=by
               rw[a5J,H6]at v;obtain⟨c0,P,rfl⟩:=C9.1 v;have bo:(A7 c0||I7 c0)=true:=B5.1 (show(l6 e).all (fun c=>A7 c||I7 c)=true from B5.1 an e (D0 he)) c0 (D0 P);cases c0<;>first|rfl|(simp[A7,I7]at bo)
              refine⟨u,?_,a3C ag,?_⟩
              . rw[a1c (show w.heap[G.β (root k)]?=_ from H),W he r,show o*s'+(i*s'+t)=(o+i)*s'+t by rw[O5];omega];exact aA
              . cases x<;>first|(simp[A7]at ag;done)|(unfold G9 at aT;exact aT.2)
            . simp at A;exact F4 (Ne.symm A)
            . simp at A;exact⟨⟨fun x=>x.2,fun x=>⟨fun _=>rfl,x⟩⟩,rfl,rfl⟩
        . cases m
    . cases m
  . cases m
 case nown k g ver i j o l=>
  simp only[a2R]at m;split at m
  . rename_i ai s0 ver' fr es aj;split at m
    . rename_i p;obtain⟨rfl,rfl⟩:=p;split at m
      . rename_i e he;split at m
        . rename_i ns aU;split at m
          . rename_i bp;obtain⟨rfl,bq⟩:=bp;simp only[s5,s9]at m;obtain⟨rfl,rfl⟩:=m;have K:=P6 aj k8;unfold D at J;unfold j9 at J;obtain⟨a,c,rfl,a3,a4,a5,gn,ob,ab,a6,ar⟩:=J;rw[K]at ab;cases ab;obtain⟨_,au⟩:=ar rfl _ _ _ _ rfl;obtain⟨bF,aV,a7,aJ,aO⟩:=au rfl;rw[a4t he aU]at aV;cases aV;have hlen:(ns.take l).length=l:=F6;by_cases E:l=0
            . subst E;exact R rfl (a6u (b:=0) (f:=0) (a:=a) (c:=c) k8 (.inl k8) fun i d hd=>by simp at hd)
            . obtain⟨N,us,T,ap,a1,aE,aF⟩:=a3t hr K he;obtain⟨u0,ah,S⟩:=aF j _ aU;unfold G9 O2 at S;have aW:G.R (nest k i j):=Classical.byContradiction fun p=>by
               obtain⟨_,rfl⟩:=S.2 p;simp at bq;omega
              obtain⟨bG,T2,bH,aN,_,_,aG,aH,bI,br,bJ,bK,bs⟩:=S.1 aW;obtain⟨f,rfl,X⟩:=aJ aW;have F:f=0:=by
               rcases X with X|X
               . omega
               . simpa using X
              subst F;refine R rfl (a6u (b:=G.β (nest k i j)) (f:=0) (c:=c) (by rw[hlen]) (.inr rfl) fun a d hd=>⟨a4b C hd,fun t x v=>?_⟩);have bt:a<l:=(by rw[←hlen];exact(C0.1 hd).1);have aX:=hd;rw[a0H,if_pos bt]at aX;obtain⟨H,Y⟩:=bs a d aX;obtain⟨af,u,p4,aA⟩:=Y t x v;refine⟨u,?_,af,a1x af aA⟩;rw[a1c br,V5,←a4b C hd,H];exact p4
          . cases m
        . cases m
      . cases m
    . cases m
  . cases m
end
section
variable{news:List PV}{sz k:Nat}{V:Nat→Value}{mk:Nat→Nat→Option Nat}{hide:List Nat}{v:PV}{ws ws':List (Nat×Row)}{x:Value}
section
variable{P:Program}{B:Nat}{Z0:Nat→Prop}{G G':Gh}{h h':Heap}{w w':World}
def Gh.a4Z(G:Gh)(k:Nat):Gh:={G with R:=fun key=>key.1≠k∧G.R key,γ:=fun key=>if key=root k then 0 else G.γ key}
theorem b5G(hr:s6 B Z0 G h w){g:Nat}{l:Ob}(m:h[k]?=some (g,l))(h0:0<sz):s6 B Z0 (G.a4Z k) (h.set k (g+1,.arr sz 0 false [])) w∧Ext G h w (G.a4Z k) (h.set k (g+1,.arr sz 0 false [])) w:=by
 have n:k<h.length:=(C0.1 m).1;have d:∀a y,a≠k→C8 G (G.a4Z k) (a,y):=fun a y c=>⟨rfl,⟨fun x=>x.2,fun x=>⟨c,x⟩⟩,by simp[Gh.a4Z,c],rfl⟩
 have x:Ext G h w (G.a4Z k) (h.set k (g+1,.arr sz 0 false [])) w:=by
  refine⟨fun _ y=>y,fun _ _=>rfl,fun a gn o e=>?_⟩;by_cases c:a=k
  . grind
  . exact⟨gn,o,by rw[F4 (Ne.symm c)];exact e,p7 _,fun _=>K7.refl a o (d _ _ c) fun i j=>d _ _ c⟩
 refine⟨hr.update k (g+1) _ n x (fun a y c=>.inl (d a y c)) (fun _ _ _ _=>rfl) (p7 _) hr.zb (fun b hb=>.inl hb) (fun _ _ _ _ p=>p) (fun y f=>absurd rfl f.1) (fun e=>by cases e) ?_,x⟩;unfold F7;exact⟨h0,E0 _,by simp[Gh.a4Z],fun f=>absurd rfl f.1,fun _=>rfl⟩
def a7g(G:Gh)(h:Heap)(w:World)(sz:Nat)(news:List PV)(V:Nat→Value)(mk:Nat→Nat→Option Nat):Prop:=
 ∀(i:Nat) d,news[i]?=some d→(l6 d).length=sz∧∀(t:Nat) c,(l6 d)[t]?=some c→a2S G h w (mk i t) (V (i*sz+t)) c
theorem a7z(hr:s6 B Z0 G h w){g ver ver' γ0 b l:Nat}{es:List PV}{us us':Array Value}{T T0:TypeId}(r:h[k]?=some (g,.arr sz ver false es))(hs:a7g G h w sz news V mk)
 (C:∀i t a,mk i t=some a→i<news.length∧a≠k∧(∃g2,h[a]?=some (g2,.dead))∧(G.R (root a)→¬G.Z (G.β (root a)))) (U:∀i t o s a,mk i t=some a→mk o s=some a→i=o∧t=s)
 (W:l≤es.length) (X:(l=es.length∧ver'=ver)∨ver'=ver+1)
 (D:(G.R (root k)∧b=G.β (root k)∧γ0=G.γ (root k))∨(b=w.heap.size∧es.length<l+news.length))
 (E:w'.heap[b]?=some (.cells us' T (0,0))) (hold:∀x,x<w.heap.size→x≠b→w'.heap[x]?=w.heap[x]?) (F:w.heap.size≤w'.heap.size)
 (c1:us'.size=γ0*sz) (c2:(es.take l++news++es.drop (l+news.length)).length≤γ0) (c3:γ0≤maxLen)
 (hb:es≠ []→w.heap[G.β (root k)]?=some (.cells us T0 (0,0)))
 (H:∀q,q<news.length*sz→us'[l*sz+q]?=some (V q)) (I:∀i j,j<sz→i<es.length→¬(l≤i∧i<l+news.length)→us'[i*sz+j]?=us[i*sz+j]?):
 ∃G',s6 B Z0 G' (h.set k (g,.arr sz ver' false (es.take l++news++es.drop (l+news.length)))) w'∧Ext G h w G' (h.set k (g,.arr sz ver' false (es.take l++news++es.drop (l+news.length)))) w'∧G'.R (root k)∧G'.β (root k)=b∧G'.γ (root k)=γ0:=by
 have J:∀(i:Nat) e,(es.take l++news++es.drop (l+news.length))[i]?=some e→(l≤i∧i<l+news.length∧news[i-l]?=some e)∨(¬(l≤i∧i<l+news.length)∧es[i]?=some e):=by
  intro i e he;have h1:(es.take l).length=l:=F6;by_cases c1:i<l
  . grind
  . rw[a2o,a4f j4,h1]at he;by_cases c2:i<l+news.length
    . grind
    . grind
 have K:∀(i:Nat) e,es[i]?=some e→¬(l≤i∧i<l+news.length)→(es.take l++news++es.drop (l+news.length))[i]?=some e:=by grind
 have hlen:(es.take l++news++es.drop (l+news.length)).length=max es.length (l+news.length):=F6;obtain⟨L,M⟩:=b5e (ver':=ver') (es':=es.take l++news++es.drop (l+news.length)) (mk:=fun i j=>if l≤i∧i<l+news.length then mk (i-l) j else none) hr r
  (D.imp id fun⟨f,m⟩=>⟨f,by rw[hlen];omega⟩) E hold F
  (fun i j a hm=>by
   try dsimp only at hm
   split at hm
   . exact(C _ _ _ hm).2
   . cases hm)
  (fun i j o Y a hm N=>by
   try dsimp only at hm N
   split at hm
   . grind
   . cases hm)
  c1 c2 c3 (by rw[hlen];omega) j4 (fun Z i j ns d=>by
   have hle:l=es.length:=j4;have hi:i<es.length:=by
    cases he:es[i]? with
    |none=>simp[cellAt,he]at d
    |some e=>exact(C0.1 he).1
   obtain⟨e,he⟩:∃e,es[i]?=some e:=⟨es[i],l9 hi⟩
   have v:¬(l≤i∧i<l+news.length):=j4;refine⟨ns,?_,rfl,by rw[if_neg v]⟩;simp only[cellAt,K i e he v,a5X];simpa[cellAt,he]using d)
  (fun i e he=>by
   rcases J i e he with⟨f,m,O⟩|⟨f,m⟩
   . obtain⟨n,y⟩:=hs _ e O;refine⟨n,fun j c d=>?_⟩;have z:j<sz:=(by rw[←n];exact(C0.1 d).1);have p:(if l≤i∧i<l+news.length then mk (i-l) j else none)=mk (i-l) j:=if_pos ⟨f,m⟩;refine⟨V ((i-l)*sz+j),?_,?_⟩
     . have P:(i-l+1)*sz≤news.length*sz:=a0h _ j4;rw[O5]at P;have:=H ((i-l)*sz+j) j4;rw[←this];congr 1;have:i*sz=l*sz+(i-l)*sz:=(by rw[←O5];congr 1;omega);omega
     . try dsimp only
       rw[p];exact b7c (y j c d)
   . have hi:=(C0.1 m).1;obtain⟨_,aa,T2,n,y,A,Q⟩:=a3t hr r m;rw[hb fun e=>by rw[e]at hi;simp at hi]at n;cases n;refine⟨A,fun j c d=>?_⟩;have z:j<sz:=(by rw[←A];exact(C0.1 d).1);obtain⟨u,R,S⟩:=Q j c d;have p:(if l≤i∧i<l+news.length then mk (i-l) j else none)=none:=if_neg f;refine⟨u,by rw[I i j z hi f];exact R,?_⟩
     try dsimp only
     rw[p];exact S)
 exact⟨_,L,M,by simp[Gh.mv],by simp[Gh.mv],by simp[Gh.mv]⟩
theorem b6Q(h0:0<sz)(hs:a7g G h w sz news V mk){q:Nat}(f:q<news.length*sz):(V q).oneCell'=true:=by
 have g:=div_lt f;obtain⟨d,hd⟩:∃d,news[q/sz]?=some d:=⟨news[q/sz],l9 g⟩
 obtain⟨h1,i⟩:=hs _ d hd;have hm:q%sz<(l6 d).length:=by rw[h1];exact Nat.mod_lt _ h0
 have a:=i (q%sz) _ (l9 hm);rw[show q/sz*sz+q%sz=q by rw[Nat.mul_comm];exact Nat.div_add_mod q sz]at a;cases c:mk (q/sz) (q%sz)with
 |none=>rw[c]at a;exact a7C a.1 a.2
 |some k=>
  rw[c]at a;obtain⟨ns,_,b⟩:=a;unfold O2 at b;by_cases e:G.R (root k)
  . obtain⟨_,_,_,_,j,_⟩:=b.1 e;rw[j];rfl
  . rw[(b.2 e).1];rfl
theorem a7g.ext{sz:Nat}{news:List PV}{V:Nat→Value}{mk:Nat→Nat→Option Nat}(x:Ext G h w G' h' w)(a:∀i t k,mk i t=some k→C8 G G' (root k))(hs:a7g G h w sz news V mk):a7g G' h' w sz news V mk:=
 fun i d hd=>⟨(hs i d hd).1,fun t c b=>((hs i d hd).2 t c b).ext x (fun k hm=>a i t k hm) fun _ _ _=>rfl⟩
def V8(V:Nat→Value)(n:Nat):List Value:=(List.range n).map V
theorem a6L(V:Nat→Value)(n:Nat):(V8 V n).length=n:=by simp[V8]
theorem a3c{n q:Nat}(a:q<n):(V8 V n)[q]?=some (V q):=by simp[V8,a]
theorem c4k(t ty e:TypeId)(i:TypeInfo)(d:P.underlying t=some (.slice e))(hi:P.info? e=some i)(a:Option Addr)(l c:Nat)(f:l≤c)(b:Option Addr)(g:Nat):
 (Builtin.append_ #[t,t] ty #[.slice a l c,.slice b 0 g]).run P w=.ok (.slice a l c) w:=by
 cases a<;>cases b<;>simp[Builtin.append_,run_underlying d,sizeOf,typeInfo,hi,Builtin.lenOf,f,Builtin.firstCells,loadCells,loadCellsFrom,storeCells]
theorem c9U(t ty e:TypeId)(i:TypeInfo)(h:P.underlying t=some (.slice e))(hi:P.info? e=some i)(T:TypeId)
 (g b d:Nat) (cur:Array Value) (k:w.heap[g]?=some (.cells cur T (0,0)))
 (a:Addr) (m c:Nat) (news:List Value) (l:news.length=m*i.size) (n:∀j u,news[j]?=some u→w.cell? (a.add j)=some u) (h1:∀u∈news,u.oneCell'=true)
 (o:b+m≤d) (p:b*i.size+news.length≤cur.size):
 (Builtin.append_ #[t,t] ty #[.slice (some ⟨g,0,none⟩) b d,.slice (some a) m c]).run P w=
  .ok (.slice (some ⟨g,0,none⟩) (b+m) d) (w.setRow g (a0d cur (b*i.size) news)):=by
 have q:=run_firstCells_some (P:=P) w i.size m a m c news l n;have f:=run_storeCells_at P g (b*i.size) T news 0 cur w k (by simpa using p) h1;simp only[a4d]at f;simp[Builtin.append_,run_underlying h,sizeOf,typeInfo,hi,Builtin.lenOf,o,q,Addr.add_lit,f,a0d]
structure a6B(P:Program)(w:World)(e:TypeId)(i:TypeInfo)(zv:Value)(A:Value→Sem Value)(n:Nat)(N:List Value):Prop where
 none0:n=0→∀(a:Option Addr) (l c:Nat),l≤c→(A (.slice a l c)).run P w=.ok (.slice a l c) w
 room:n≠0→∀(T:TypeId) (g l c:Nat) (cur:Array Value),w.heap[g]?=some (.cells cur T (0,0))→l+n≤c→n*i.bytes≤140737488355328→l*i.size+N.length≤cur.size→(∀u∈N,u.oneCell'=true)→(A (.slice (some ⟨g,0,none⟩) l c)).run P w=.ok (.slice (some ⟨g,0,none⟩) (l+n) c) (w.setRow g (a0d cur (l*i.size) N))
 nil:n≠0→n*i.bytes≤140737488355328→n≤140737488355328→(A (.slice none 0 0)).run P w=.ok (.slice (some ⟨w.heap.size,0,none⟩) n (grownCap w n 0 e)) (w.drew.alloc (.cells (N.toArray++Builtin.zeroCells zv.cells (grownCap w n 0 e-n)) e))
 grow:n≠0→∀(b:Addr) (l c:Nat) (olds:List Value),olds.length=l*i.size→(∀(j:Nat) v,olds[j]?=some v→w.cell? (b.add j)=some v)→c<l+n→l+n≤140737488355328→(l+n)*i.bytes≤140737488355328→(A (.slice (some b) l c)).run P w=.ok (.slice (some ⟨w.heap.size,0,none⟩) (l+n) (grownCap w (l+n) c e)) (w.drew.alloc (.cells (olds.toArray++N.toArray++Builtin.zeroCells zv.cells (grownCap w (l+n) c e-(l+n))) e))
theorem c1g{e:TypeId}{ao:Nat}{s:Value}{ps:PV}{i:TypeInfo}{zv:Value}{A:Value→Sem Value}{G1:Gh}(hr:s6 B Z0 G h w)(ap:k<h.length∧hide.contains k=false)
 (aq:zv.cells.size=i.size) (ax:0<i.size) (ar:i.bytes=ao) (ay:ao≠0) (ag:j9 G h w D s ps)
 (R:a5f k ps∉ws.map (·.1)) (n:a1R (l7 h hide) k i.size ao ps news=some (v,ws'))
 (S:s6 B Z0 G1 (p8 h ws) w) (O:Ext G h w G1 (p8 h ws) w) (ad:a7g G1 (p8 h ws) w i.size news V mk) (az:∀k,k∉ws.map (·.1)→(p8 h ws)[k]?=h[k]?)
 (ah:∀i t d,mk i t=some d→i<news.length∧d∈ws.map (·.1)∧(∃g2,(p8 h ws)[d]?=some (g2,.dead))∧(G1.R (root d)→¬G1.Z (G1.β (root d)))) (ai:∀i t aG aH d,mk i t=some d→mk aG aH=some d→i=aG∧t=aH)
 (U:a6B P w e i zv A news.length (V8 V (news.length*i.size))):
 Good P B Z0 G h w (do pure (.value (←A s))) v (ws++ws'):=by
 cases ps<;>(try (simp[a1R]at n;done))
 case nils=>
  simp only[a1R]at n;split at n
  . rename_i ae;simp only[s5,s9]at n;obtain⟨rfl,rfl⟩:=n;obtain rfl:=a0k ag;obtain⟨⟨g,aQ⟩,X⟩:∃r,h[k]?=some r:=⟨_,l9 ap.1⟩
    rw[a6A ap.2 X];have I:=(az k R).trans X;obtain⟨v1,v2⟩:=b5G (sz:=i.size) S I ax;have af:k<(p8 h ws).length:=(by grind);have m:∀r,p8 h (ws++[(k,r)])=(p8 h ws).set k r:=fun r=>(by rw[a3I];rfl);by_cases C:news.length=0
    . have:news=[]:=a0U.1 C;subst this;refine⟨_,.slice none 0 0,w,G1.a4Z k,by simp[U.none0 rfl .none 0 0 (p7 _)],.inl rfl,by rw[m];exact v1,by rw[m];exact O.trans v2,?_,Bl.refl _ _⟩;rw[m];unfold D;unfold j9;refine⟨none,0,rfl,p7 _,E0 _,.inl ⟨rfl,rfl⟩,g+1,_,E8 af,p7 _,fun _ Y vr fr es e=>?_⟩;cases e;exact⟨p7 _,fun _=>⟨E0 _,fun E=>absurd rfl E.1,fun _=>⟨rfl,rfl⟩⟩⟩
    . have F:=a6L V (news.length*i.size);have aA:news.length≤140737488355328:=(by have:=Nat.le_mul_of_pos_right news.length (Nat.pos_of_ne_zero ay);omega);have N:=U.nil C (by rw[ar];omega) j4;have Q:=grownCap_ge w news.length 0 e;have J:=grownCap_le_maxLen w news.length 0 e (by unfold maxLen;omega);have aB:(p8 h ws).set k (g+1,Ob.arr i.size 0 false [])=(p8 h ws).set k (g+1,Ob.arr i.size 0 false []):=rfl;obtain⟨G2,d1,d2,d3,d4,d5⟩:=a7z (ver':=0) (γ0:=grownCap w news.length 0 e) (l:=0) (us:= #[]) (T0:=0) (w':=w.drew.alloc (.cells ((V8 V (news.length*i.size)).toArray++Builtin.zeroCells zv.cells (grownCap w news.length 0 e-news.length)) e)) v1 (E8 af)
       (ad.ext v2 fun a t d hm=>by have K:d≠k:=fun e=>R (e▸(ah a t d hm).2.1);exact⟨rfl,⟨fun y=>y.2,fun y=>⟨K,y⟩⟩,by simp[Gh.a4Z,K],rfl⟩)
       (fun a t d hm=>by obtain⟨aj,ak,⟨g2,al⟩,p4⟩:=ah a t d hm;have K:d≠k:=fun e=>R (e▸ak);exact⟨aj,K,⟨g2,by rw[F4 (Ne.symm K)];exact al⟩,fun E=>p4 E.2⟩)
       ai (p7 0) (.inl ⟨rfl,rfl⟩) (.inr ⟨rfl,F6⟩) (heap_alloc_new w.drew _) (fun y Z _=>Below.heap_alloc w.drew _ y Z) k8
       (by rw[a6V,size_zeroCells,aq,a5Y,F,←O5];congr 1;omega)
       (by simpa using Q) J (fun e=>absurd rfl e)
       (fun q z=>by rw[Nat.zero_mul,V5,a2W (by simpa[F]using z)];rw[a5Z];exact a3c z)
       (fun a j _ aa=>by simp at aa)
      have aC:([]:List PV).take 0++news++([]:List PV).drop (0+news.length)=news:=k8;rw[aC,List.set_set]at d1 d2;refine⟨_,_,_,G2,by simp only[N6,N,P5,a1H];rfl,.inl rfl,by rw[m];exact d1,by rw[m];exact O.trans (v2.trans d2),?_,(Bl.drew (Bl.refl _ _)).alloc (by simpa using hr.base) _⟩;rw[m];unfold D;unfold j9;refine⟨_,_,rfl,Q,J,.inr ⟨_,_,rfl⟩,g+1,_,E8 af,p7 _,fun _ Y vr fr es H=>?_⟩;cases H;exact⟨p7 _,fun _=>⟨j4,fun _=>⟨0,by rw[d4],.inr k8,j4,by rw[d5];omega⟩,fun L=>absurd d3 L⟩⟩
  . cases n
 case ne=>
  simp only[a1R]at n;split at n
  . rename_i ae;simp only[s5,s9]at n;obtain⟨rfl,rfl⟩:=n;obtain⟨C,ae⟩:=ae;obtain⟨aR,aS,rfl⟩:∃b o,s=.slice (some ⟨b,o,none⟩) 0 0:=(by unfold D at ag;unfold j9 at ag;exact ag);obtain⟨⟨g,aQ⟩,X⟩:∃r,h[k]?=some r:=⟨_,l9 ap.1⟩
    rw[a6A ap.2 X];have I:=(az k R).trans X;obtain⟨v1,v2⟩:=b5G (sz:=i.size) S I ax;have af:k<(p8 h ws).length:=(by grind);have m:∀r,p8 h (ws++[(k,r)])=(p8 h ws).set k r:=fun r=>(by rw[a3I];rfl);have F:=a6L V (news.length*i.size);have aA:news.length≤140737488355328:=(by have:=Nat.le_mul_of_pos_right news.length (Nat.pos_of_ne_zero ay);omega);have N:=U.grow C ⟨aR,aS,none⟩ 0 0 [] k8 k8 j4 j4 (by grind);simp only[V5,List.append_toArray,a4H,Array.empty_append]at N;have Q:=grownCap_ge w news.length 0 e;have J:=grownCap_le_maxLen w news.length 0 e (by unfold maxLen;omega);have aB:(p8 h ws).set k (g+1,Ob.arr i.size 0 false [])=(p8 h ws).set k (g+1,Ob.arr i.size 0 false []):=rfl;obtain⟨G2,d1,d2,d3,d4,d5⟩:=a7z (ver':=0) (γ0:=grownCap w news.length 0 e) (l:=0) (us:= #[]) (T0:=0) (w':=w.drew.alloc (.cells ((V8 V (news.length*i.size)).toArray++Builtin.zeroCells zv.cells (grownCap w news.length 0 e-news.length)) e)) v1 (E8 af)
     (ad.ext v2 fun a t d hm=>by have K:d≠k:=fun e=>R (e▸(ah a t d hm).2.1);exact⟨rfl,⟨fun y=>y.2,fun y=>⟨K,y⟩⟩,by simp[Gh.a4Z,K],rfl⟩)
     (fun a t d hm=>by obtain⟨aj,ak,⟨g2,al⟩,p4⟩:=ah a t d hm;have K:d≠k:=fun e=>R (e▸ak);exact⟨aj,K,⟨g2,by rw[F4 (Ne.symm K)];exact al⟩,fun E=>p4 E.2⟩)
     ai (p7 0) (.inl ⟨rfl,rfl⟩) (.inr ⟨rfl,F6⟩) (heap_alloc_new w.drew _) (fun y Z _=>Below.heap_alloc w.drew _ y Z) k8
     (by rw[a6V,size_zeroCells,aq,a5Y,F,←O5];congr 1;omega)
     (by simpa using Q) J (fun e=>absurd rfl e)
     (fun q z=>by rw[Nat.zero_mul,V5,a2W (by simpa[F]using z)];rw[a5Z];exact a3c z)
     (fun a j _ aa=>by simp at aa)
    have aC:([]:List PV).take 0++news++([]:List PV).drop (0+news.length)=news:=k8;rw[aC,List.set_set]at d1 d2;refine⟨_,_,_,G2,by simp only[N6,N,P5,a1H];rfl,.inl rfl,by rw[m];exact d1,by rw[m];exact O.trans (v2.trans d2),?_,(Bl.drew (Bl.refl _ _)).alloc (by simpa using hr.base) _⟩;rw[m];unfold D;unfold j9;refine⟨_,_,rfl,Q,J,.inr ⟨_,_,rfl⟩,g+1,_,E8 af,p7 _,fun _ Y vr fr es H=>?_⟩;cases H;exact⟨p7 _,fun _=>⟨j4,fun _=>⟨0,by rw[d4],.inr k8,j4,by rw[d5];omega⟩,fun L=>absurd d3 L⟩⟩
  . cases n
 case own p g bd s0 o l=>
  simp only[a1R]at n;split at n
  . rename_i W be ver fr es aT;split at n
    . rename_i aU;obtain⟨rfl,aV,rfl,rfl,rfl,rfl,bf,ae⟩:=aU;have X:=P6 aT k8;have I:=(az p R).trans X;have am:p<(p8 h ws).length:=(C0.1 I).1;have m:∀r,p8 h (ws++[(p,r)])=(p8 h ws).set p r:=fun r=>(by rw[a3I];rfl);have aW:∃ver',((l=es.length∧ver'=ver)∨(l≠es.length∧ver'=ver+1))∧v=.own p W (es.take l++news++es.drop (l+news.length)).length i.size 0 (l+news.length)∧ws'=[(p,(W,.arr i.size ver' false (es.take l++news++es.drop (l+news.length))))]:=by
       split at n
       . rename_i bg;simp only[s5,s9]at n;obtain⟨rfl,rfl⟩:=n;have h1:es.take l=es:=a0t j4;have aX:es.drop (l+news.length)=[]:=b5r j4;refine⟨ver,.inl ⟨j4,rfl⟩,?_,?_⟩
         . grind
         . rw[h1,aX,a1v]
       . grind
      obtain⟨ver',aI,rfl,rfl⟩:=aW;have aJ:(l=es.length∧ver'=ver)∨ver'=ver+1:=aI.imp id fun y=>y.2;have M:(es.take l++news++es.drop (l+news.length)).length=max es.length (l+news.length):=F6;have aD:=ag.ext O;unfold D at aD;unfold j9 at aD;obtain⟨a,c,rfl,bh,aK,aY,gn,ob,aL,bi,aZ⟩:=aD;rw[I]at aL;cases aL;obtain⟨_,a0⟩:=aZ rfl _ _ _ _ rfl;obtain⟨_,a1,a2⟩:=a0 aV;have aM:=S.ob p _ _ I;unfold F7 at aM;obtain⟨bj,bk,aN,a3,a4⟩:=aM;have aA:l+news.length≤140737488355328:=(by have:=Nat.le_mul_of_pos_right (l+news.length) (Nat.pos_of_ne_zero ay);omega);have F:=a6L V (news.length*i.size);have aE:∀a t d,mk a t=some d→a<news.length∧d≠p∧(∃g2,(p8 h ws)[d]?=some (g2,.dead))∧(G1.R (root d)→¬G1.Z (G1.β (root d))):=fun a t d hm=>by obtain⟨aj,ak,al,p4⟩:=ah a t d hm;exact⟨aj,fun e=>R (e▸ak),al,p4⟩
      by_cases E:G1.R (root p)
      . obtain⟨us,T,ab,au,bl⟩:=a3 E;obtain⟨f,rfl,bm,bn,bo⟩:=a1 E;have aO:f=0∨c=0:=j4;by_cases a5:l+news.length≤c
        ·
         have av:l*i.size+(V8 V (news.length*i.size)).length≤us.size:=by rw[F,au,←O5];exact a0h _ j4
         have aP:=fun(us':Array Value) (w':World)=>a7z (ver':=ver') (γ0:=G1.γ (root p)) (b:=G1.β (root p)) (l:=l) (us:=us) (T0:=T) (T:=T) (us':=us') (w':=w') S I ad aE ai j4 aJ (.inl ⟨E,rfl,rfl⟩);by_cases C:news.length=0
         . obtain⟨G2,d1,d2,d3,d4,d5⟩:=aP us w ab (fun _ _ _=>rfl) (p7 _) au (by rw[M];omega) aN (fun _=>ab) (fun q z=>by rw[C]at z;omega) (fun _ _ _ _ _=>rfl);refine⟨_,.slice (some ⟨G1.β (root p),f,none⟩) l c,w,G2,?_,.inl rfl,by rw[m];exact d1,by rw[m];exact O.trans d2,?_,Bl.refl _ _⟩
           . simp[U.none0 C (some ⟨G1.β (root p),f,none⟩) l c j4]
           . rw[m];unfold D;unfold j9;refine⟨_,_,by rw[C];rfl,j4,aK,.inr ⟨_,_,rfl⟩,W,_,E8 am,p7 _,fun _ Y vr fr es' H=>?_⟩;cases H;refine⟨p7 _,fun _=>⟨by rw[M];omega,fun _=>⟨f,by rw[d4],?_,by rw[M];omega,by rw[d5];omega⟩,fun L=>absurd d3 L⟩⟩;rcases aO with ac|ac
             . exact .inr fun _=>by omega
             . exact .inl ac
         . have ac:f=0:=j4;subst ac;have N:=U.room C T (G1.β (root p)) l c us ab a5 (by rw[ar];have:=a0h ao (Nat.le_add_left news.length l);omega) av (fun u hu=>by
            obtain⟨q,z,rfl⟩:=G7.1 hu;exact b6Q ax ad (by simpa using z))
           obtain⟨G2,d1,d2,d3,d4,d5⟩:=aP (a0d us (l*i.size) (V8 V (news.length*i.size))) (w.setRow (G1.β (root p)) (a0d us (l*i.size) (V8 V (news.length*i.size)))) (setRow_heap w _ us _ T (0,0) ab) (fun x _ a6=>setRow_other w _ _ _ a6) k8 (by rw[a6f av];exact au) (by rw[M];omega) aN (fun _=>ab)
            (fun q z=>by rw[a3U av,if_pos (by rw[F];omega),show l*i.size+q-l*i.size=q by omega];exact a3c z)
            (fun a j hj aa a7=>by
             rw[a3U av,if_neg ?_];rw[F];rintro⟨bp,z2⟩;by_cases a8:a<l
             . have:(a+1)*i.size≤l*i.size:=a0h _ j4;rw[O5]at this;omega
             . have:(l+news.length)*i.size≤a*i.size:=a0h _ j4;rw[O5]at this;omega)
           refine⟨_,_,_,G2,by simp only[N6,N,P5,a1H];rfl,.inl rfl,by rw[m];exact d1,by rw[m];exact O.trans d2,?_,a6r (Bl.refl _ _) (S.lv _ E).1 _ (by assumption)⟩;rw[m];unfold D;unfold j9;refine⟨_,_,rfl,j4,aK,.inr ⟨_,_,rfl⟩,W,_,E8 am,p7 _,fun _ Y vr fr es' H=>?_⟩;cases H;exact⟨p7 _,fun _=>⟨by rw[M];omega,fun _=>⟨0,by rw[d4],.inr k8,by rw[M];omega,by rw[d5];omega⟩,fun L=>absurd d3 L⟩⟩
        ·
         have C:news.length≠0:=j4;have bq:l*i.size≤us.size:=(by rw[au];exact a0h _ j4);have br:l*i.size=0∨f=0:=by
          rcases aO with ac|ac
          . exact .inr ac
          . left;have:l=0:=j4
            rw[this,Nat.zero_mul]
         have N:=U.grow C ⟨G1.β (root p),f,none⟩ l c (us.toList.take (l*i.size)) F6 (fun j u hj=>by have a9:j<l*i.size:=(by have:=(C0.1 hj).1;simp at this;omega);rw[a0H,if_pos a9]at hj;rw[Addr.add_lit,show f+j=j by omega,a1c ab];simpa using hj) j4 aA (by rw[ar];exact ae)
         have Q:=grownCap_ge w (l+news.length) c e;have J:=grownCap_le_maxLen w (l+news.length) c e (by unfold maxLen;omega);have aw:(us.toList.take (l*i.size)).toArray.size=l*i.size:=F6;obtain⟨G2,d1,d2,d3,d4,d5⟩:=a7z (ver':=ver') (γ0:=grownCap w (l+news.length) c e) (l:=l) (us:=us) (T0:=T)
          (w':=w.drew.alloc (.cells ((us.toList.take (l*i.size)).toArray++(V8 V (news.length*i.size)).toArray++Builtin.zeroCells zv.cells (grownCap w (l+news.length) c e-(l+news.length))) e)) S I ad aE ai j4 aJ (.inr ⟨rfl,j4⟩)
          (heap_alloc_new w.drew _) (fun y Z _=>Below.heap_alloc w.drew _ y Z) k8
          (by rw[a6V,a6V,size_zeroCells,aq,aw,a5Y,F,←O5,←O5];congr 1;omega)
          (by rw[M];omega) J (fun _=>ab)
          (fun q z=>by rw[a6W,a5m (by rw[aw];omega),aw,a2W (by simp[F];omega),show l*i.size+q-l*i.size=q by omega];rw[a5Z];exact a3c z)
          (fun a j hj aa a7=>by have a8:a<l:=j4;have an:(a+1)*i.size≤l*i.size:=a0h _ j4;rw[O5]at an;rw[a6W,a2W (by rw[aw];omega),a5Z,a0H,if_pos j4];simp)
         refine⟨_,_,_,G2,by simp only[N6,N,P5,a1H];rfl,.inl rfl,by rw[m];exact d1,by rw[m];exact O.trans d2,?_,(Bl.drew (Bl.refl _ _)).alloc (by simpa using hr.base) _⟩;rw[m];unfold D;unfold j9;refine⟨_,_,rfl,Q,J,.inr ⟨_,_,rfl⟩,W,_,E8 am,p7 _,fun _ Y vr fr es' H=>?_⟩;cases H;exact⟨p7 _,fun _=>⟨by rw[M];omega,fun _=>⟨0,by rw[d4],.inr k8,by rw[M];omega,by rw[d5];omega⟩,fun L=>absurd d3 L⟩⟩
      . have ba:=a4 E;subst ba;obtain⟨rfl,_⟩:=a2 E;have aB:c=0:=by
         rcases aY with⟨_,q⟩|⟨_,_,q⟩
         . exact q
         . cases q
        subst aB;have bb:l=0:=j4;subst bb;obtain rfl:ver'=ver:=by
         rcases aI with an|an
         . exact an.2
         . exact absurd rfl an.1
        by_cases C:news.length=0
        . have:news=[]:=a0U.1 C;subst this;have aF:(p8 h ws).set p (W,Ob.arr i.size ver' false [])=p8 h ws:=by
           apply a4g;intro j;by_cases hj:j=p
           . subst hj;rw[E8 am,I]
           . rw[F4 (Ne.symm hj)]
          refine⟨_,.slice none 0 0,w,G1,by simp[U.none0 rfl .none 0 0 (p7 _)],.inl rfl,?_,?_,?_,Bl.refl _ _⟩
          . rw[m];simp only[List.take_nil,a1v,List.drop_nil];rw[aF];exact S
          . rw[m];simp only[List.take_nil,a1v,List.drop_nil];rw[aF];exact O
          . rw[m];simp only[List.take_nil,a1v,List.drop_nil];rw[aF];unfold D;unfold j9;refine⟨none,0,rfl,p7 _,E0 _,.inl ⟨rfl,rfl⟩,W,_,I,p7 _,fun _ Y vr fr es H=>?_⟩;cases H;exact⟨p7 _,fun _=>⟨E0 _,fun bc=>absurd bc E,fun _=>⟨rfl,rfl⟩⟩⟩
        . have N:=U.nil C (by rw[ar];rw[V5]at ae;omega) j4;have Q:=grownCap_ge w news.length 0 e;have J:=grownCap_le_maxLen w news.length 0 e (by unfold maxLen;omega);obtain⟨G2,d1,d2,d3,d4,d5⟩:=a7z (ver':=ver') (γ0:=grownCap w news.length 0 e) (l:=0) (us:= #[]) (T0:=0) (w':=w.drew.alloc (.cells ((V8 V (news.length*i.size)).toArray++Builtin.zeroCells zv.cells (grownCap w news.length 0 e-news.length)) e)) S I ad aE ai (p7 0) (.inl ⟨rfl,rfl⟩) (.inr ⟨rfl,F6⟩)
           (heap_alloc_new w.drew _) (fun y Z _=>Below.heap_alloc w.drew _ y Z) k8
           (by rw[a6V,size_zeroCells,aq,a5Y,F,←O5];congr 1;omega)
           (by simpa using Q) J (fun e=>absurd rfl e)
           (fun q z=>by rw[Nat.zero_mul,V5,a2W (by simpa[F]using z)];rw[a5Z];exact a3c z)
           (fun a j _ aa=>by simp at aa)
          refine⟨_,.slice (some ⟨w.heap.size,0,none⟩) (0+news.length) (grownCap w news.length 0 e),_,G2,by simp only[N6,N,P5,a1H,V5];rfl,.inl rfl,by rw[m];exact d1,by rw[m];exact O.trans d2,?_,(Bl.drew (Bl.refl _ _)).alloc (by simpa using hr.base) _⟩;rw[m];unfold D;unfold j9;refine⟨_,_,rfl,j4,J,.inr ⟨_,_,rfl⟩,W,_,E8 am,p7 _,fun _ Y vr fr es' H=>?_⟩;cases H;exact⟨p7 _,fun _=>⟨by rw[M];omega,fun _=>⟨0,by rw[d4],.inr k8,by rw[M];simp;omega,by rw[d5];omega⟩,fun L=>absurd d3 L⟩⟩
    . cases n
  . cases n
theorem a6B.ofSlice(t ty e:TypeId)(i:TypeInfo)(zv:Value)(n:P.underlying t=some (.slice e))(hi:P.info? e=some i)(v:i.zero=some zv){G:Gh}{h:Heap}(hs:Src G h w x i.size news V mk):
 a6B P w e i zv (fun s=>Builtin.append_ #[t,t] ty #[s,x]) news.length (V8 V (news.length*i.size)):=by
 obtain⟨⟨y,o,rfl,q⟩,_⟩:=hs;have r:=a6L V (news.length*i.size);refine⟨fun f a l c z=>?_,fun f T g l c cur p A _ B h1=>?_,fun f hb C=>?_,fun f b l c olds D E p C hb=>?_⟩
 . rw[f];exact c4k (P:=P) (w:=w) t ty e i n hi a l c z y o
 . obtain⟨b,k,rfl,m⟩:=q.resolve_left f;exact c9U (P:=P) (w:=w) t ty e i n hi T g l c cur p ⟨b,k,none⟩ news.length o (V8 V (news.length*i.size)) r (fun j u hj=>by
    have d:j<news.length*i.size:=(by grind);rw[a3c d]at hj;cases hj;rw[Addr.add_lit];exact m j d) h1 A B
 . obtain⟨b,k,rfl,m⟩:=q.resolve_left f;exact run_append_nil (P:=P) w t ty e i zv n hi v ⟨b,k,none⟩ news.length o (V8 V (news.length*i.size)) r (fun j u hj=>by
    have d:j<news.length*i.size:=(by grind);rw[a3c d]at hj;cases hj;rw[Addr.add_lit];exact m j d) j4 j4 j4
 . obtain⟨a,k,rfl,m⟩:=q.resolve_left f;exact run_append_grow (P:=P) w t ty e i zv n hi v b l c olds D E ⟨a,k,none⟩ news.length o (V8 V (news.length*i.size)) r (fun j u hj=>by
    have d:j<news.length*i.size:=(by grind);rw[a3c d]at hj;cases hj;rw[Addr.add_lit];exact m j d) p j4 (growslice_fits p hb)
theorem c5Q(hr:s6 B Z0 G h w){t ty e:TypeId}{mode a:Nat}{s:Value}{ps b z:PV}(f:k<h.length∧hide.contains k=false)(g:P.underlying t=some (.slice e))(hs:I9 P e=some sz)(hb:a5u P e=some a)(j:a0v P e=some z)
 (l:(l6 z).length=sz) (h0:sz≠0) (m:a≠0) (n:j9 G h w D s ps) (o:mode≠5) (p:j9 G h w D x b) (q:a1P (l7 h hide) mode b=some (news,ws)) (r:a3w sz news=true)
 (u:a5f k ps∉ws.map (·.1)) (y:a1R (l7 h hide) k sz a ps news=some (v,ws')):
 Good P B Z0 G h w (do pure (.value (←Builtin.append_ #[t,t] ty #[s,x]))) v (ws++ws'):=by
 obtain⟨i,zv,hi,C,E⟩:=a4Q j;obtain⟨O,c,rfl⟩:=a1Z hs;rw[hi]at c;cases c;have F:i.bytes=a:=by unfold a5u at hb;rw[hi]at hb;simpa using hb
 have H:zv.cells.size=i.size:=by rw[(a6M (G:=G) (h:=h) (w:=w) E).1,l]
 have I:0<i.size:=j4;obtain⟨G1,V,mk,J,K,d,L,M,N,Q⟩:=b5n hr o p r q;exact c1g (A:=fun s=>Builtin.append_ #[t,t] ty #[s,x]) hr f H I F m n u y J K d.cells L M N (a6B.ofSlice t ty e i zv g hi C d)
theorem d0H{z0 zv:Value}(a:zv.cells= #[z0])(n:Nat):Builtin.zeroCells zv.cells n=(V8 (fun _=>z0) n).toArray:=by apply Array.ext';rw[a];simp[Builtin.zeroCells,V8,Nat.mod_one]
theorem Src.take{vx:Value}{sz l:Nat}{news:List PV}{V:Nat→Value}{mk:Nat→Nat→Option Nat}(hs:Src G h w vx sz news V mk):∃g,Src G h w g sz (news.take l) V (fun i t=>if i<(news.take l).length then mk i t else none):=by
 obtain⟨⟨a,c,rfl,e⟩,m⟩:=hs;refine⟨.slice a (news.take l).length c,⟨a,c,rfl,?_⟩,fun i d hd=>?_⟩
 . rcases e with e|⟨b,f,rfl,j⟩
   . left;rw[a1V];omega
   . right;exact⟨b,f,rfl,fun q k=>j q (a9I k (a0h _ F6))⟩
 . grind
theorem run_copy_none(t u ty e:TypeId)(i:TypeInfo)(d:P.underlying t=some (.slice e))(hi:P.info? e=some i)(a:Option Addr)(l c:Nat)(b:Option Addr)(m f:Nat)(hm:Nat.min m l=0):
 (Builtin.copy_ #[t,u] ty #[.slice a l c,.slice b m f]).run P w=.ok (.int .i64 0) w:=by
 cases a<;>cases b<;>simp[Builtin.copy_,run_underlying d,sizeOf,typeInfo,hi,Builtin.lenOf,hm,Builtin.firstCells,loadCells,loadCellsFrom,storeCells,goInt]
theorem c5p(t u ty e:TypeId)(i:TypeInfo)(f:P.underlying t=some (.slice e))(hi:P.info? e=some i)(T:TypeId)
 (g off l c:Nat) (cur:Array Value) (h:w.heap[g]?=some (.cells cur T (0,0)))
 (a:Addr) (m b:Nat) (news:List Value) (k:news.length=Nat.min m l*i.size) (n:∀j u,news[j]?=some u→w.cell? (a.add j)=some u) (h1:∀u∈news,u.oneCell'=true)
 (o:off+news.length≤cur.size):
 (Builtin.copy_ #[t,u] ty #[.slice (some ⟨g,off,none⟩) l c,.slice (some a) m b]).run P w=
  .ok (goInt (Nat.min m l)) (w.setRow g (a0d cur off news)):=by
 have p:=run_firstCells_some (P:=P) w i.size (Nat.min m l) a m b news k n;have d:=run_storeCells_at P g off T news 0 cur w h (by simpa using o) h1;simp only[a4d]at d;simp[Builtin.copy_,run_underlying f,sizeOf,typeInfo,hi,Builtin.lenOf,p,d,a0d]
theorem c2A(hr:s6 B Z0 G h w){t u ty e:TypeId}{d:Value}{J R:PV}(K:P.underlying t=some (.slice e))(hs:I9 P e=some sz)
 (h0:sz≠0) (y:j9 G h w D d J) (ae:j9 G h w D x R) (af:a1P (l7 h hide) 0 R=some (news,ws)) (m:a7t (l7 h hide) sz J news ws=some (v,ws')):
 Good P B Z0 G h w (do pure (.value (←Builtin.copy_ #[t,u] ty #[d,x]))) v ws':=by
 obtain⟨i,hi,rfl⟩:=a1Z hs;have ag:0<i.size:=j4;unfold a7t at m;split at m
 case isFalse=>cases m
 rename_i ah;obtain⟨G1,V,mk,z,A,L,ai,aI,aJ,aK⟩:=b5n hr H9 ae ah af;obtain⟨⟨S,M,rfl,aj⟩,_⟩:=id L;cases J<;>(try (simp at m;done))
 case nils=>
  simp only[s5,s9]at m;obtain⟨rfl,rfl⟩:=m;obtain rfl:=a0k y;refine⟨_,.int .i64 0,w,G1,by simp only[N6,run_copy_none t u ty e i K hi none 0 0 S news.length M (by grind),P5,a1H],.inl rfl,z,A,a0J,Bl.refl _ _⟩
 case' own k g ak s o l=>replace y:=b3V y
 case' osl k g ak s o l=>skip
 all_goals
  simp only at m;split at m
  . rename_i aL aM ver fr es al;split at m
    . rename_i am;obtain⟨rfl,U,rfl,rfl,rfl,aN,an⟩:=am;have ao:k∉ws.map (·.1):=(by simpa using an);have ap:=P6 al k8;have C:=(ai k ao).trans ap;have aO:k<(p8 h ws).length:=(C0.1 C).1;have W:∀r,p8 h (ws++[(k,r)])=(p8 h ws).set k r:=fun r=>(by rw[a3I];rfl);obtain⟨aP,aq⟩:=L.take (l:=l);have X:(news.take l).length=Nat.min news.length l:=(by grind);split at m
      . rename_i ar;simp only[s5,s9]at m;obtain⟨rfl,rfl⟩:=m;have p:=y;unfold D at p;unfold j9 at p;obtain⟨a,c,rfl,_⟩:=p;refine⟨_,.int .i64 0,w,G1,by simp only[N6,run_copy_none t u ty e i K hi a l c S news.length M j4,P5,a1H],.inl rfl,z,A,a0J,Bl.refl _ _⟩
      . rename_i ar;simp only[s5,s9]at m;obtain⟨rfl,rfl⟩:=m;have aQ:(news.take l).length≤l:=F6;have Y:(news.take l).length≤news.length:=F6;have au:(es.take o++news.take l++es.drop (o+(news.take l).length)).length=es.length:=(by grind);have av:∀a t n,(if a<(news.take l).length then mk a t else none)=some n→a<(news.take l).length∧n≠k∧(∃g2,(p8 h ws)[n]?=some (g2,.dead))∧(G1.R (root n)→¬G1.Z (G1.β (root n))):=fun a t n hm=>by
         split at hm
         . grind
         . cases hm
        have aw:∀a t E N n,(if a<(news.take l).length then mk a t else none)=some n→(if E<(news.take l).length then mk E N else none)=some n→a=E∧t=N:=fun a t E N n h1 aR=>by
         split at h1
         . grind
         . cases h1
        have p:=y.ext A;unfold D at p;unfold j9 at p;obtain⟨a,c,rfl,aS,aT,aU,gn,ob,Z,aV,ax⟩:=p;rw[C]at Z;cases Z;obtain⟨_,ay⟩:=ax rfl _ _ _ _ rfl;obtain⟨_,az,aW⟩:=ay U;have aa:=z.ob k _ _ C;unfold F7 at aa;obtain⟨aX,aY,aA,aB,aC⟩:=aa;have F:G1.R (root k):=Classical.byContradiction fun aD=>by have:=aC aD;subst this;simp at U;omega
        obtain⟨us,T,O,ab,aZ⟩:=aB F;obtain⟨f,rfl,a0⟩:=az F;have aE:f=o*i.size:=j4;subst aE;obtain⟨b,aF,rfl,aG⟩:=aj.resolve_left j4;have H:=a6L V ((news.take l).length*i.size);have I:o*i.size+(V8 V ((news.take l).length*i.size)).length≤us.size:=by rw[H,ab,←O5];exact a0h _ j4
        have ac:=c5p (P:=P) (w:=w) t u ty e i K hi T (G1.β (root k)) (o*i.size) l c us O ⟨b,aF,none⟩ news.length M (V8 V ((news.take l).length*i.size)) (by rw[H,X]) (fun j u hj=>by
         have ad:j<(news.take l).length*i.size:=(by grind);rw[a3c ad]at hj;cases hj;rw[Addr.add_lit];exact aG j (a9I ad (a0h _ Y))) (fun u hu=>by obtain⟨q,Q,rfl⟩:=G7.1 hu;exact b6Q ag L.cells (a9I (by simpa using Q) (a0h _ Y))) I
        rw[←X]at ac;obtain⟨G2,d1,d2,d3,d4,d5⟩:=a7z (ver':=ver+1) (γ0:=G1.γ (root k)) (b:=G1.β (root k)) (l:=o) (us:=us) (T0:=T) (T:=T) (us':=a0d us (o*i.size) (V8 V ((news.take l).length*i.size))) (w':=w.setRow (G1.β (root k)) (a0d us (o*i.size) (V8 V ((news.take l).length*i.size)))) z C aq.cells av aw j4 (.inr rfl) (.inl ⟨F,rfl,rfl⟩)
         (setRow_heap w _ us _ T (0,0) O) (fun x _ aH=>setRow_other w _ _ _ aH) k8 (by rw[a6f I];exact ab) (by rw[au];omega) aA (fun _=>O)
         (fun q Q=>by rw[a3U I,if_pos (by rw[H];omega),show o*i.size+q-o*i.size=q by omega];exact a3c Q)
         (fun a j hj a1 a2=>by
          rw[a3U I,if_neg ?_];rw[H];rintro⟨a3,z2⟩;by_cases a4:a<o
          . have:(a+1)*i.size≤o*i.size:=a0h _ j4;rw[O5]at this;omega
          . have:(o+(news.take l).length)*i.size≤a*i.size:=a0h _ j4;rw[O5]at this;omega)
        refine⟨_,.int .i64 ((news.take l).length:Nat),_,G2,by simp only[N6,ac,P5,a1H];rfl,.inl rfl,by rw[W];exact d1,by rw[W];exact A.trans d2,a0J,a6r (Bl.refl _ _) (z.lv _ F).1 _ (by assumption)⟩
    . cases m
  . cases m
end
end
section
variable{P:Program}{B:Nat}{Z0:Nat→Prop}{G:Gh}{h:Heap}{w:World}
def a2l(s:ByteArray):List Value:=s.data.toList.map fun b=>.int .u8 b.toNat
theorem c3u(w:World)(size:Nat)(s:ByteArray):(Builtin.firstCells size s.size (.string s)).run P w=.ok (a2l s).toArray w:=by
 have:s.extract 0 s.size=s:=by apply ByteArray.ext;simp
 simp[Builtin.firstCells,a2l,this];apply Array.ext';simp
theorem a6B.ofString(t u ty e:TypeId)(i:TypeInfo)(zv:Value)(f:P.underlying t=some (.slice e))(hu:P.underlying u=some .string)(hi:P.info? e=some i)(m:i.zero=some zv)(h1:i.size=1)(n:i.bytes≠0)(s:ByteArray):
 a6B P w e i zv (fun v=>Builtin.append_ #[t,u] ty #[v,.string s]) s.size (a2l s):=by
 have h:=fun w=>c3u (P:=P) w i.size s;refine⟨fun d a l c q=>?_,fun d T g l c cur j r hb x y=>?_,fun d hb z=>?_,fun d b l c olds A B j z hb=>?_⟩
 . have he:a2l s=[]:=by
    have:s.data.toList.length=0:=(by simpa using d);unfold a2l;rw[a0U.1 this];rfl
   have o:=h w;rw[d,he]at o;cases a<;>simp[Builtin.append_,run_underlying f,run_underlying hu,sizeOf,typeInfo,hi,d,q,Builtin.lenOf,o,storeCells]
 . have p:=run_storeCells_at P g (l*i.size) T (a2l s) 0 cur w j (by simpa using x) y;simp only[a4d]at p;simp[Builtin.append_,run_underlying f,run_underlying hu,sizeOf,typeInfo,hi,r,Builtin.lenOf,h,Addr.add_lit,p,a0d]
 . have k:¬(281474976710656<Builtin.nextslicecap s.size 0*i.bytes):=(by rw[nextslicecap_zero j4];omega);simp[Builtin.append_,run_underlying f,run_underlying hu,sizeOf,typeInfo,hi,d,zeroValue,m,k,n,Builtin.lenOf,h,Question.forced,run_firstCells_none,newRow,grownCap]
 . have C:¬(l+s.size≤c):=j4;have k:¬(281474976710656<Builtin.nextslicecap (l+s.size) c*i.bytes):=(by have:=growslice_fits j hb;omega);have D:=run_firstCells_some (P:=P) w.drew i.size l b l c olds A (by simpa using B);simp[Builtin.append_,run_underlying f,run_underlying hu,sizeOf,typeInfo,hi,d,zeroValue,m,k,C,n,Builtin.lenOf,h,Question.forced,D,newRow,grownCap];congr 2;apply Array.ext';simp
theorem c7Z(hr:s6 B Z0 G h w){hide:List Nat}{t u ty e:TypeId}{k a:Nat}{s:Value}{ps v:PV}{b:ByteArray}{l:List (Nat×Row)}(o:k<h.length∧hide.contains k=false)(p:P.underlying t=some (.slice e))(hu:P.underlying u=some .string)(hs:I9 P e=some 1)(hb:a5u P e=some a)(r:a0v P e=some (.int .u8 0))
 (y:a≠0) (z:j9 G h w D s ps) (C:a1R (l7 h hide) k 1 a ps (b.data.toList.map fun x=>.int .u8 x.toNat)=some (v,l)):
 Good P B Z0 G h w (do pure (.value (←Builtin.append_ #[t,u] ty #[s,.string b]))) v l:=by
 obtain⟨i,zv,hi,E,F⟩:=a4Q r;obtain⟨M,m,h1⟩:=a1Z hs;rw[hi]at m;cases m;have H:i.bytes=a:=by unfold a5u at hb;rw[hi]at hb;simpa using hb
 have I:zv=.int .u8 0:=by exact Z2 (a8N (G:=G) (h:=h) (w:=w) F).1
 subst I;have n:=a6B.ofString (P:=P) (w:=w) t u ty e i (.int .u8 0) p hu hi E h1 j4 b;have hlen:(b.data.toList.map fun x=>PV.int .u8 x.toNat).length=b.size:=k8;have J:a2l b=V8 (fun q=>(a2l b).getD q (.int .u8 0)) ((b.data.toList.map fun x=>PV.int .u8 x.toNat).length*i.size):=by
  rw[h1,Nat.mul_one];apply a4g;intro q;by_cases f:q<b.size
  . have K:q<(b.data.toList.map fun x=>PV.int .u8 x.toNat).length:=(by rw[hlen];exact f);rw[a3c K];have:q<(a2l b).length:=(by simpa[a2l]using f);rw[B0,l9 this];rfl
  . rw[a0i (by simp[a2l];simpa using f),a0i (by rw[a6L,hlen];omega)]
 rw[←hlen,J]at n;have:=c1g (P:=P) (e:=e) (i:=i) (zv:=.int .u8 0) (A:=fun s=>Builtin.append_ #[t,u] ty #[s,.string b]) (ws:=[]) (G1:=G) (V:=fun q=>(a2l b).getD q (.int .u8 0)) (mk:=fun _ _=>none) hr o (by rw[h1];rfl) j4 H y z k8 (by rw[h1];exact C) hr Ext.refl ?_ (fun _ _=>rfl) (fun _ _ _ e=>absurd e k8) (fun _ _ _ _ _ e=>absurd e k8) n
 . simpa using this
 . intro j d hd;rw[H6]at hd;obtain⟨x,L,rfl⟩:=C9.1 hd;refine⟨by rw[h1];rfl,fun t c g=>?_⟩;have:t=0∧c=.int .u8 x.toNat:=by
    cases t with
    |zero=>simp[l6]at g;exact⟨rfl,g.symm⟩
    |succ t=>simp[l6]at g
   obtain⟨rfl,rfl⟩:=this;refine⟨rfl,?_⟩;have hj:(a2l b).getD (j*i.size+0) (.int .u8 0)=.int .u8 x.toNat:=by rw[h1,Nat.mul_one,a4d,B0];simp[a2l,L]
   show j9 G (p8 h []) w D ((a2l b).getD (j*i.size+0) (.int .u8 0)) _;rw[hj];exact a0J
end
section
variable{t e:TypeId}{k i j:Nat}{v u a:Value}{hide:List Nat}{p c:PV}{r:Bool}
section
variable{P:Program}{B:Nat}{Z0:Nat→Prop}{G:Gh}{h:Heap}{w:World}
theorem a9F(hp:A7 c=true):l6 c=[c]:=by cases c<;>first|rfl|(simp[A7]at hp)
theorem b2H{x:PV}(hp:A7 c=true)(a:(l6 c)[j]?=some x):j=0∧x=c:=by
 rw[a9F hp]at a
 grind
theorem c1n(hp:A7 c=true)(a:j9 G h w D u c):G9 G h w k i j u c:=by cases c<;>first|(simp[A7]at hp;done)|(unfold G9;exact⟨rfl,a⟩)
theorem c9f(hp:A7 c=true)(a:G9 G h w k i j u c):j9 G h w D u c:=by cases c<;>first|(simp[A7]at hp;done)|(unfold G9 at a;exact a.2)
theorem b1g{es:List PV}(hp:es.all A7=true){e:PV}(he:es[i]?=some e):A7 e=true:=B5.1 hp e (D0 he)
theorem b8G(hr:s6 B Z0 G h w)(a:k<h.length∧hide.contains k=false){us:Array Value}{T:TypeId}{cs:List PV}(hu:J4 (fun v c=>one c=true∧j9 G h w D v c) us cs)
 (hp:cs.all A7=true) (h0:0<cs.length) (hm:cs.length≤1000000) {s:Sem Next} (hs:s.run P w=.ok (.value (.pointer (some ⟨w.heap.size,0,none⟩))) (w.alloc (.cells us T))):
 Good P B Z0 G h w s (.eptr k ((l7 h hide k).1+1) cs.length 1 0 0) [(k,((l7 h hide k).1+1,.arr 1 0 false cs))]:=by
 obtain⟨⟨g,y⟩,d⟩:∃r,h[k]?=some r:=⟨_,l9 a.1⟩
 rw[a6A a.2 d];have f:(G.put k w.heap.size cs.length).β (root k)=w.heap.size:=by simp[Gh.put]
 have l:(G.put k w.heap.size cs.length).γ (root k)=cs.length:=by simp[Gh.put]
 have m:(G.put k w.heap.size cs.length).R (root k):=by simp[Gh.put]
 obtain⟨h1,n⟩:=b0A (w':=w.alloc (.cells us T)) (o':=.arr 1 0 false cs) hr d (ob:=.cells us T) rfl cs.length rfl (fun e=>by cases e) (fun x=>by unfold F7;rw[f,l];refine⟨j4,p7 _,by unfold maxLen;omega,fun _=>⟨us,T,heap_alloc_new w _,by rw[hu.1];omega,fun i e he=>?_⟩,fun o=>absurd m o⟩;have b:=b1g hp he;refine⟨by rw[a9F b];rfl,fun j c p=>?_⟩;obtain⟨rfl,rfl⟩:=b2H b p;obtain⟨u,q,z,t⟩:=hu.2 i c he;exact⟨u,by rw[Nat.mul_one,a4d];exact q,c1n b (t.ext x)⟩)
 refine⟨_,_,_,_,hs,.inl rfl,h1,n,?_,a6S hr _⟩;unfold D;unfold j9;refine⟨_,_,rfl,g+1,.arr 1 0 false cs,E8 a.1,p7 _,fun _ sz ver fr es e=>?_⟩;cases e;exact⟨p7 _,fun _=>⟨f.symm,fun _=>rfl,h0⟩⟩
theorem c4t(hr:s6 B Z0 G h w)(d:k<h.length∧hide.contains k=false){z:PV}{zs:List PV}(e:a0v P t=some z)(f:(l6 z).map a1M=zs)(hp:zs.all A7=true)(h0:0<zs.length)(hm:zs.length≤1000000):
 Good P B Z0 G h w (do pure (.value (←Instr.alloc t true (.tuple #[])))) (.eptr k ((l7 h hide k).1+1) zs.length 1 0 0) [(k,((l7 h hide k).1+1,.arr 1 0 false zs))]:=by
 obtain⟨i,v,h1,g,j⟩:=a4Q e;have a:=a6M (G:=G) (h:=h) (w:=w) j;have l:J4 (fun u c=>one c=true∧j9 G h w D u c) v.cells zs:=by subst f;refine⟨by rw[O0];exact a.1,fun i c b=>?_⟩;rw[H6]at b;obtain⟨c0,m,rfl⟩:=C9.1 b;obtain⟨u,n,o,p⟩:=a.2 i c0 m;exact⟨u,n,c7R o p⟩
 refine b8G hr d (T:=t) (us:=v.cells) l hp h0 hm ?_;simp[Instr.alloc,b1X h1 g,newVar,newRow]
theorem c6W(hr:s6 B Z0 G h w)(a:k<h.length∧hide.contains k=false)(b:j9 G h w D v p)(hp:(l6 p).all A7=true)(h0:0<(l6 p).length)(hm:(l6 p).length≤1000000):
 Good P B Z0 G h w (do pure (.value (←Instr.box t v))) (.eptr k ((l7 h hide k).1+1) (l6 p).length 1 0 0) [(k,((l7 h hide k).1+1,.arr 1 0 false (l6 p)))]:=by
 refine b8G hr a (T:=t) (us:=v.cells) (a4W b (B5.2 fun c d=>a3C (B5.1 hp c d))) hp h0 hm ?_;simp[Instr.box,newVar,newRow]
theorem c6E{q:PV}{sz m:Nat}(c:j9 G h w D v p)(a:b1c sz p m=some q):∃b o,v=.pointer (some ⟨b,o,none⟩)∧j9 G h w D (.pointer (some ⟨b,o+m*sz,none⟩)) q:=by
 cases p<;>simp only[b1c]at a<;>(try exact b3S c a)
 case eptr k g e s i j=>
  split at a
  . rename_i d;obtain⟨rfl,rfl,l⟩:=d;simp only[s5]at a;subst a;unfold D at c⊢;unfold j9 at c⊢;obtain⟨b,f,rfl,gn,ob,h1,n,r⟩:=c
    grind
  . exact b3S c a
theorem b5y(hr:s6 B Z0 G h w){n:Nat}{r:PV}(hi:a1D P t=some true)(hs:I9 P t=some n)(d:j9 G h w D v p)(a:a6J (l7 h hide) n p=some r):
 ∃u,(Instr.loadAt t v).run P w=.ok u w∧j9 G h w D u r:=by
 cases p<;>simp only[a6J]at a<;>(try exact a9C hr hi hs d a)
 case eptr k g q s i j=>
  split at a
  . rename_i e;obtain⟨rfl,rfl,rfl,rfl⟩:=e;split at a
    . rename_i N sz ver fr es F;split at a
      . rename_i H;obtain⟨rfl,C,rfl,hp⟩:=H;cases a;have E:=P6 F k8;unfold D at d;unfold j9 at d;obtain⟨b,f,rfl,gn,ob,h1,O,y⟩:=d;rw[E]at h1;cases h1;obtain⟨_,y⟩:=y rfl _ _ _ _ rfl;obtain⟨rfl,Q,h0⟩:=y C;have I:f=0:=j4;subst I;have J:a7D (fun _ v c=>one c=true∧j9 G h w D v c) w (G.β (root k)) 0 es:=fun j c e=>by
         obtain⟨_,us,T,K,_,_,z⟩:=a3t hr E e;have A:=b1g hp e;obtain⟨u,l,m⟩:=z 0 c (by rw[a9F A];rfl);refine⟨u,by rw[a1c K,V5];simpa using l,a3C A,c9f A m⟩
        obtain⟨u,L,_,z⟩:=a7d (P:=P) (off:=0) hi hs J (show a2y true q es 0=some (.agg ((es.drop 0).take q))by simp[a2y,C]);refine⟨u,L,?_⟩;obtain⟨vs,rfl,S,l,m⟩:=z rfl;have M:(es.drop 0).take q=es:=(by grind);rw[M]at l m;exact a9o (o:=0) (R:=fun _ v c=>one c=true∧j9 G h w D v c) m l fun _ _ _ _ x=>x
      . cases a
    . cases a
  . exact a9C hr hi hs d a
theorem c6H(hr:s6 B Z0 G h w){n:Nat}{z pv:PV}{ws:List (Nat×Row)}(hs:I9 P t=some n)(h0:n≠0)(q:j9 G h w D a z)(A:j9 G h w D v pv)
 (d:a7N (l7 h hide) n z pv=some ws):Good P B Z0 G h w (do Instr.storeAt t a v;pure .skip) .uu ws:=by
 cases z<;>simp only[a7N]at d<;>(try exact b2R hr hs h0 q A d)
 case eptr k g M s i j=>
  split at d
  . rename_i l;obtain⟨rfl,rfl,rfl,rfl⟩:=l;cases pv<;>(try (cases d;done));rename_i cs;simp only[]at d;split at d
    . rename_i ac sz ver fr es N;split at d
      . rename_i O;obtain⟨rfl,Q,rfl,rfl,hp,R,H⟩:=O;simp only[s5]at d;subst d;have r:=P6 N k8;unfold D at q;unfold j9 at q;obtain⟨b,f,rfl,gn,ob,h1,ad,C⟩:=q;rw[r]at h1;cases h1;obtain⟨_,C⟩:=C rfl _ _ _ _ rfl;obtain⟨rfl,ae,h0⟩:=C Q;have S:f=0:=j4;subst S;obtain⟨af,U⟩:∃e,es[0]?=some e:=⟨es[0],l9 j4⟩
        obtain⟨I,us,T,J,V,_,_⟩:=a3t hr r U;have K:=hr.ob k _ _ r;unfold F7 at K;have E:=a4W A (p:=.agg cs) (B5.2 fun c l=>a3C (B5.1 H c l));have W:v.cells.size=M:=(by rw[E.1];exact R);have L:0+v.cells.toList.length≤us.size:=(by grind);have X:=b0Z (P:=P) (o:=0) hs W (b1w (fun u c y=>a7C y.1 y.2) E) J j4;obtain⟨Y,Z⟩:=b5e (w':=w.setRow (G.β (root k)) (a0d us 0 v.cells.toList)) (ver':=ver) (es':=cs) (γ0:=G.γ (root k)) (b:=G.β (root k)) (mk:=fun _ _=>none) hr r (.inl ⟨I,rfl,rfl⟩) (setRow_heap w _ us _ T (0,0) J) (fun x _ aa=>setRow_other w _ _ _ aa) k8
         (fun _ _ _ e=>absurd e k8) (fun _ _ _ _ _ e=>absurd e k8) (by rw[a6f L];exact V) j4 K.2.2.1 j4 (p7 _)
         (fun _ i j ns l=>by
          exfalso;unfold cellAt at l;cases F:es[i]? with
          |none=>rw[F]at l;simp at l
          |some e=>
           rw[F]at l;have m:=b1g hp F;have ab:(l6 e)[j]?=some (.uslc ns):=(by simpa using l);obtain⟨_,rfl⟩:=b2H m ab;simp[A7]at m)
         (fun i e he=>by
          have m:=b1g H he;refine⟨by rw[a9F m];rfl,fun j c l=>?_⟩;obtain⟨rfl,rfl⟩:=b2H m l;have ag:i<cs.length:=(C0.1 he).1;obtain⟨u,g1,g2,g3⟩:=E.2 i c he;refine⟨u,?_,?_⟩
          . rw[a3U L,if_pos (by grind)];simpa using g1
          . unfold b0v;exact c1n m g3)
        exact⟨.skip,undef,_,_,by simp[X],.inr ⟨rfl,rfl⟩,Y,Z,K6,a6r (Bl.refl _ _) (hr.lv _ I).1 _ (by assumption)⟩
      . cases d
    . cases d
  . exact b2R hr hs h0 q A d
theorem c6t{b:Value}{x y:PV}(d:Nat)(c:a7L P t=some k)(g:j9 G h w D a x)(hb:j9 G h w D b y)(e:eqC k x y=some r):(Op.equalIn (d+1) t a b).run P w=.ok r w:=by
 unfold a7L at c;cases x<;>cases y<;>simp only[eqC]at e<;>(try (cases e;done))<;>split at e<;>(try (cases e;done))
 case bool.bool i j f=>
  subst f;cases e;obtain rfl:=a0X g;obtain rfl:=a0X hb;split at c<;>first|(cases c;done)|(rename_i hu;exact run_equalIn_bool' w d t i j hu)|(simp at c)
 case int.int l i m j f=>
  obtain⟨rfl,rfl⟩:=f;cases e;obtain rfl:=Z2 g;obtain rfl:=Z2 hb;split at c<;>first|(cases c;done)|(rename_i hu;exact run_equalIn_int w d t _ _ i j hu)|(simp at c)
 case str.str i j f=>
  subst f;cases e;obtain rfl:=a2O g;obtain rfl:=a2O hb;split at c<;>first|(cases c;done)|(rename_i hu;exact run_equalIn_string w d t i j hu)|(simp at c)
theorem d0u(a:a7L P t=some k):a1D P t=some false:=by
 unfold a7L at a;unfold a1D
 grind
theorem b8z{vs:Array Value}(a:a7L P t=some k)(hs:I9 P t=some 1)(hu:vs[i]?=some u):(part t vs i).run P w=.ok u w:=by
 obtain⟨h,b,c⟩:=a1Z hs;have hi:=d0u a;have e:(isAgg t).run P w=.ok false w:=by
  unfold a1D at hi;unfold isAgg;split at hi
  . cases hi
  . cases hi
  . rename_i d h1 f g;simp only[N6,run_underlying g,P5];cases d<;>first|rfl|exact absurd rfl (h1 _)|exact absurd rfl (f _ _)
  . cases hi
 unfold part;simp[e,hu,sizeOf,typeInfo,b,c]
theorem b7U{xs n:Array Value}{l m:List PV}(o:J4 (j9 G h w 5) xs l)(p:J4 (j9 G h w 5) n m)(d:Nat):∀(g:List Field) (i:Nat) (ts:List Nat) (r:Bool),b0k P i g=some ts→a5j ts (l.drop i) (m.drop i)=some r→(Op.eqFields (d+1) xs n g).run P w=.ok r w
 | [],i,ts,r,c,he=>by
  cases c;cases e:l.drop i<;>cases hm:m.drop i<;>rw[e,hm]at he<;>simp only[a5j]at he<;>first|(cases he;done)|skip
  cases he;simp[Op.eqFields]
 |f::g,i,ts,r,c,he=>by
  simp only[b0k]at c;split at c
  . rename_i q;obtain⟨c1,c2,c3⟩:=q;split at c
    . rename_i k s j t;cases c;cases e:l.drop i with
      |nil=>rw[e]at he;simp[a5j]at he
      |cons a z=>
       cases hm:m.drop i with
       |nil=>rw[e,hm]at he;simp[a5j]at he
       |cons b A=>
        rw[e,hm]at he;simp only[a5j]at he;split at he
        . rename_i x y h1 M;cases he;have B:l[i]?=some a:=(by have:=congrArg List.head? e;rw[List.head?_drop]at this;exact this);have C:m[i]?=some b:=(by have:=congrArg List.head? hm;rw[List.head?_drop]at this;exact this);obtain⟨u,D,E⟩:=o.2 i a B;obtain⟨v,F,H⟩:=p.2 i b C;have I:=b8z (w:=w) j c3 D;have J:=b8z (w:=w) j c3 F;have K:=c6t (w:=w) d j E.up H.up h1;have N:l.drop (i+1)=z:=(by rw[←List.tail_drop,e];rfl);have O:m.drop (i+1)=A:=(by rw[←List.tail_drop,hm];rfl);have L:=b7U o p d g (i+1) s y t (by grind);simp only[Op.eqFields,if_pos c1,N6,c2,I,J,K,P5];cases x
          . simp
          . simp[L]
        . cases he
    . cases c
  . cases c
theorem d1Y{op:BinOp}{x y:Operand}{b:Value}{l m:List PV}{ts:List Nat}(i:op=.eql∨op=.neq)(c:b2C P t=some ts)(j:j9 G h w D a (.agg l))(hb:j9 G h w D b (.agg m))(k:a5j ts l m=some r):
 ∃v,(do eqGuard op t x y a b;Go.binOp op t a b:Sem Value).run P w=.ok v w∧j9 G h w D v (.bool ((op==.neq) !=r)):=by
 obtain⟨xs,rfl,n⟩:=a5w j;obtain⟨d,rfl,o⟩:=a5w hb;unfold b2C at c;split at c
 . rename_i e hu;split at c
   . rename_i f;have p:P.fieldsOf t=e:=(by unfold Program.fieldsOf;rw[hu]);have g:=run_eqGuard_agg w op t x y xs d f.2;have he:(Op.equalIn 10000 t (.agg xs) (.agg d)).run P w=.ok r w:=by
      rw[run_equalIn_agg w 9999 t xs d (by grind) f.1,p];exact b7U n o 9998 e.toList 0 ts r c (by simpa using k)
     rcases i with rfl|rfl
     . refine⟨.bool r,?_,by rw[show((BinOp.eql==BinOp.neq) !=r)=r by cases r<;>rfl];exact a1o⟩;simp only[N6,g,P5,run_eql_struct,he]
     . refine⟨.bool (!r),?_,by rw[show((BinOp.neq==BinOp.neq) !=r)=!r by cases r<;>rfl];exact a1o⟩;simp only[N6,g,P5,run_neq_struct,he]
   . cases c
 . cases c
theorem b9X:∀{cs:List PV} {d:List UInt8},a0n cs=some d→∃ns:List Int,cs=ns.map (.int .u8)∧d=ns.map fun n=>UInt8.ofNat n.toNat
 | [],d,a=>by cases a;exact⟨[],rfl,rfl⟩
 |c::cs,d,a=>by
  simp only[a0n]at a;split at a
  . rename_i b f h1 e;cases a;obtain⟨ns,rfl,rfl⟩:=b9X e;unfold a6R at h1;split at h1
    . split at h1
      . rename_i a;subst a;cases h1;exact⟨_::ns,rfl,rfl⟩
      . cases h1
    . cases h1
  . cases a
theorem c4a(ns:List Int):∀s:ByteArray,ns.foldl (fun r n=>r.push (UInt8.ofNat n.toNat)) s=⟨⟨s.data.toList++ns.map fun n=>UInt8.ofNat n.toNat⟩⟩:=by
 induction ns with
 |nil=>intro s;simp
 |cons n ns a=>
  intro s;rw[a4e,a];simp[ByteArray.push]
theorem d1a(hr:s6 B Z0 G h w){src dst:TypeId}{news:List PV}{ws:List (Nat×Row)}{k:List UInt8}(hs:P.underlying src=some (.slice e))(he:P.underlying e=some (.int .u8))(hd:P.underlying dst=some .string)
 (l:j9 G h w D v p) (m:a1P (l7 h hide) 2 p=some (news,ws)) (hb:a0n news=some k):∃u,(convert src dst v).run P w=.ok u w∧j9 G h w D u (.str ⟨⟨k⟩⟩):=by
 obtain⟨ns,rfl,rfl⟩:=b9X hb;have o:a3w 1 (ns.map (PV.int .u8))=true:=B5.2 fun x q=>by obtain⟨n,_,rfl⟩:=G7.1 q;rfl
 obtain⟨G1,V,mk,_,_,r,_,E,_⟩:=b5n hr H9 l o m;obtain⟨⟨a,c,rfl,d⟩,s⟩:=r;refine⟨.string ⟨⟨ns.map fun n=>UInt8.ofNat n.toNat⟩⟩,?_,a5E⟩;have t:(convert src dst (.slice a (ns.map (PV.int .u8)).length c)).run P w=(Conv.bytesToString (.slice a (ns.map (PV.int .u8)).length c)).run P w:=run_convert_bytes_string w src dst e a _ c hs he hd;rw[t];cases a with
 |none=>
  rcases d with d|⟨b,f,d,_⟩
  . have:ns=[]:=(by simpa using d);subst this;simp[Conv.bytesToString];rfl
  . cases d
 |some a=>
  have y:(loadCells a (ns.map (PV.int .u8)).length).run P w=.ok (ns.map (Value.int .u8)).toArray w:=by
   rcases d with d|⟨b,f,d,z⟩
   . have:ns=[]:=(by simpa using d);subst this;simp[loadCells,loadCellsFrom]
   . cases d;have:=run_loadCells (P:=P) w ⟨b,f,none⟩ (ns.map (PV.int .u8)).length (fun j=>V j) (fun j hj=>by rw[Addr.add_lit];exact z j (by simpa using hj));rw[this];congr 2;refine a0z k8 fun i h1 A=>?_;simp only[a0V,a4I];have hi:i<ns.length:=(by simpa using A);obtain⟨_,g⟩:=s i (PV.int .u8 ns[i]) (by simp[hi]);have g:=g 0 (.int .u8 ns[i]) rfl;have hm:mk i 0=none:=by
      cases hm:mk i 0 with
      |none=>rfl
      |some F=>
       exfalso;rw[hm]at g;obtain⟨H,C,_⟩:=g;cases C
     rw[hm]at g;have:=Z2 g.2;simpa using this
  rw[run_bytesToString w a _ c ns y,c4a];rfl
theorem c3L(hr:s6 B Z0 G h w){s:Nat}{z:PV}{parts:Array (Nat×Value)}(hu:a4q P t=some e)(hs:I9 P e=some s)(a:a0v P e=some z)
 (b:s≠0) (c:(l6 z).length=s) (hp:a4Y G h w parts.toList []):
 Good P B Z0 G h w (do pure (.value (←Instr.buildSlice t 0 parts))) .ne []:=by
 obtain⟨A',d,i,hlen,hbound⟩:=b3z (P:=P) hu hs a b j4 c hp (show a3Y s (List.replicate 0 z) []=some []from rfl);obtain⟨f,g⟩:=b7X hr (.cells A' e) ⟨_,_,_,rfl⟩;refine⟨.value (.slice (some ⟨w.heap.size,0,none⟩) 0 0),_,w.alloc (.cells A' e),_,by simp[d],.inl rfl,f,g,?_,a6S hr _⟩;unfold D;unfold j9;exact⟨_,_,rfl⟩
theorem d1J{y:Nat×Nat}(a:b0u P t=some y):∃e,P.underlying t=some (.array y.1 e)∧I9 P e=some y.2:=by
 unfold b0u at a;split at a
 . rename_i m e hu;obtain⟨s,h1,rfl⟩:=C9.1 a;exact⟨e,hu,h1⟩
 . cases a
theorem c4N{y:Nat×Nat}{q:PV}{lo hi:Option Value}{d f:Option PV}(x:b0u P t=some y)(c:j9 G h w D v p)
 (h1:OV G h w lo d) (z:OV G h w hi f) (a:b0P y.1 y.2 p d f=some q):∃u,(Instr.sliceAt t v lo hi none).run P w=.ok u w∧j9 G h w D u q:=by
 obtain⟨n,sz⟩:=y;cases p<;>simp only[b0P]at a<;>(try (cases a;done));rename_i k g o;split at a
 case isFalse=>cases a
 rename_i C;split at a
 case h_2=>cases a
 rename_i l u hb;cases a;obtain⟨e,hu,A⟩:=d1J x;obtain⟨E,B,i⟩:=a1Z A;simp only at hu i;obtain⟨hb,F,H⟩:=b3e (P:=P) (isS:=false) (mx:=none) (pmx:=none) (p7 n) h1 z trivial hb;unfold D at c;unfold j9 at c;obtain⟨b,rfl,gn,ob,j,m,r⟩:=c;refine⟨.slice (some (if n=l then⟨b,o,none⟩else⟨b,o+l*sz,none⟩)) (u-l) (n-l),?_,?_⟩
 . simp[Instr.sliceAt,run_underlying hu,Instr.sureAddr,hb,sizeOf,typeInfo,B,i,Addr.add_lit]
 . unfold D;unfold j9;by_cases s:n=l
   . rw[if_pos s];exact⟨b,o,_,rfl,j4,by unfold maxLen;omega,.inl j4,gn,ob,j,m,r⟩
   . rw[if_neg s];exact⟨b,o+l*sz,_,rfl,j4,by unfold maxLen;omega,.inr rfl,gn,ob,j,m,r⟩
theorem c3e{op:BinOp}{x y:Operand}(A:op=.eql∨op=.neq)(hu:P.underlying t=some (.slice e))(n:j9 G h w D v p)(m:b0N p=some r):
 ∃u,(do eqGuard op t x y v (.slice none 0 0);Go.binOp op t v (.slice none 0 0):Sem Value).run P w=.ok u w∧j9 G h w D u (.bool ((op==.neq) !=r)):=by
 have key:∃a l c,v=.slice a l c∧a.isNone=r:=by
  cases p<;>simp only[b0N]at m<;>(try (cases m;done))
  case nils=>cases m;exact⟨none,0,0,a0k n,rfl⟩
  case ne=>
   cases m;unfold D at n;unfold j9 at n;obtain⟨b,o,rfl⟩:=n;exact⟨some _,0,0,rfl,rfl⟩
  case slc es=>
   split at m
   . cases m
   . rename_i F;cases m;obtain⟨a,c,sz,rfl,H,I,B,J⟩:=PR.U1.1 (a3n n);cases a with
     |none=>have:=B rfl;omega
     |some a=>exact⟨some a,_,c,rfl,rfl⟩
  case own k g K s o l=>
   split at m
   . cases m
   . cases m;unfold D at n;unfold j9 at n;obtain⟨a,c,rfl,C,E,q,_⟩:=n;rcases q with⟨rfl,rfl⟩|⟨b,f,rfl⟩
     . omega
     . exact⟨some _,_,c,rfl,rfl⟩
  case nown k g ver i j o l=>
   split at m
   . cases m
   . cases m;unfold D at n;unfold j9 at n;obtain⟨a,c,rfl,C,E,q,_⟩:=n;rcases q with⟨rfl,rfl⟩|⟨b,f,rfl⟩
     . omega
     . exact⟨some _,_,c,rfl,rfl⟩
 obtain⟨a,l,c,rfl,rfl⟩:=key;have he:(Op.equal t (.slice a l c) (.slice none 0 0)).run P w=.ok a.isNone w:=by
  have hd:∀d:Nat,(Op.equalIn (d+1) t (.slice a l c) (.slice none 0 0)).run P w=.ok a.isNone w:=fun d=>by cases a<;>simp[Op.equalIn,run_underlying hu]
  exact hd 9999
 rcases A with rfl|rfl
 . refine⟨.bool a.isNone,?_,by rw[show((BinOp.eql==BinOp.neq) !=a.isNone)=a.isNone by cases a<;>rfl];exact a1o⟩;have z:(eqGuard .eql t x y (.slice a l c) (.slice none 0 0)).run P w=.ok () w:=(by simp[eqGuard]);simp only[N6,z,P5,Go.binOp,he,a1H]
 . refine⟨.bool (!a.isNone),?_,by rw[show((BinOp.neq==BinOp.neq) !=a.isNone)=!a.isNone by cases a<;>rfl];exact a1o⟩;have z:(eqGuard .neq t x y (.slice a l c) (.slice none 0 0)).run P w=.ok () w:=(by simp[eqGuard]);simp only[N6,z,P5,Go.binOp,he,a1H]
end
end
end Go.Proofs.YtmhbdebagfhimaaGreatDoor.Am
