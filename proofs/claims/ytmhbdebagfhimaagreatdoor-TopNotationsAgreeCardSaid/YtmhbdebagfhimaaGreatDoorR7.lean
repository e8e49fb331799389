/-
  The plain machine, that it is sound, and walks: part 7 (joined and shortened by a program of the prover's).
-/
import Derived.Test.YtmhbdebagfhimaaGreatDoorR6
import Derived.Shelf.Sort.Plain
import Derived.Shelf.Slices.In.SortNone
import Derived.KernelRfl
import Derived.Shelf.Strings.BuilderK
import Derived.Shelf.Strings.Search2
import Derived.Shelf.Strconv.Itoa3
import Derived.Test.YtmhbdebagfhimaaGreatDoorProg
import Derived.WalkKit
import Derived.Deep.LoopGhost
import Derived.Deep.OwnRows
import Derived.Lib.OthersKept
import Derived.Laws.Rows
import Derived.StillTailTactics
import Derived.BigCall
import Derived.Test.YtmhbdebagfhimaaGreatDoorRows
import Derived.Test.YtmhbdebagfhimaaGreatDoorCards
import Derived.Test.YtmhbdebagfhimaaGreatDoorTie
import Derived.ProofKit
import Derived.LaidMore
import Derived.OpenShut
import Derived.Stop.Joined
import Derived.SevenTiedAt
set_option linter.unusedSimpArgs false
set_option linter.unusedVariables false
set_option linter.unusedSectionVars false
set_option linter.unnecessarySimpa false
namespace Go.Proofs.YtmhbdebagfhimaaGreatDoor.T
open Go.Proofs.YtmhbdebagfhimaaGreatDoor.Am
open Go.Proofs Go.Shelf Go.Sort
def c6N:Go.Shelf.Ren:=⟨fun|189=>81|125=>114|257=>113|128=>145|129=>146|294=>136|295=>137|296=>138|297=>139|298=>140|299=>141|216=>142|300=>143|301=>144|328=>156|329=>157|330=>158|331=>159|332=>160|215=>161|343=>166|n=>n,fun|28=>39|3=>3|46=>142|0=>0|51=>268|53=>254|4=>4|183=>261|182=>260|131=>152|5=>5|9=>9|218=>276|222=>280|228=>283|229=>284|n=>n,fun|n=>n⟩
theorem c1L:Lays.n189 Tryz.prog c6N where
 mixed:=by kernel_rfl
 f125:=Tryz.func114.trans (by kernel_rfl)
 f128:=Tryz.func145.trans (by kernel_rfl)
 f129:=Tryz.func146.trans (by kernel_rfl)
 f189:=Tryz.func81.trans (by kernel_rfl)
 f215:=Tryz.func161.trans (by kernel_rfl)
 f216:=Tryz.func142.trans (by kernel_rfl)
 f257:=Tryz.func113.trans (by kernel_rfl)
 f294:=Tryz.func136.trans (by kernel_rfl)
 f295:=Tryz.func137.trans (by kernel_rfl)
 f296:=Tryz.func138.trans (by kernel_rfl)
 f297:=Tryz.func139.trans (by kernel_rfl)
 f298:=Tryz.func140.trans (by kernel_rfl)
 f299:=Tryz.func141.trans (by kernel_rfl)
 f300:=Tryz.func143.trans (by kernel_rfl)
 f301:=Tryz.func144.trans (by kernel_rfl)
 f328:=Tryz.func156.trans (by kernel_rfl)
 f329:=Tryz.func157.trans (by kernel_rfl)
 f330:=Tryz.func158.trans (by kernel_rfl)
 f331:=Tryz.func159.trans (by kernel_rfl)
 f332:=Tryz.func160.trans (by kernel_rfl)
 f343:=Tryz.func166.trans (by kernel_rfl)
 t0:=Tryz.underlying0
 a0:=Tryz.isAgg0
 z0:=Tryz.sizeOf0
 v0:=Tryz.zeroValue0
 t3:=Tryz.underlying3
 a3:=Tryz.isAgg3
 z3:=Tryz.sizeOf3
 v3:=Tryz.zeroValue3
 t4:=Tryz.underlying4
 a4:=Tryz.isAgg4
 z4:=Tryz.sizeOf4
 v4:=Tryz.zeroValue4
 t5:=Tryz.underlying5
 a5:=Tryz.isAgg5
 z5:=Tryz.sizeOf5
 v5:=Tryz.zeroValue5
 t9:=Tryz.underlying9
 a9:=Tryz.isAgg9
 z9:=Tryz.sizeOf9
 v9:=Tryz.zeroValue9
 t28:=Tryz.underlying39
 a28:=Tryz.isAgg39
 z28:=Tryz.sizeOf39
 v28:=Tryz.zeroValue39
 t46:=Tryz.underlying142
 a46:=Tryz.isAgg142
 z46:=Tryz.sizeOf142
 v46:=Tryz.zeroValue142
 t51:=Tryz.underlying268
 a51:=Tryz.isAgg268
 z51:=Tryz.sizeOf268
 v51:=Tryz.zeroValue268
 t53:=Tryz.underlying254
 a53:=Tryz.isAgg254
 z53:=Tryz.sizeOf254
 v53:=Tryz.zeroValue254
 t131:=Tryz.underlying152
 a131:=Tryz.isAgg152
 z131:=Tryz.sizeOf152
 v131:=Tryz.zeroValue152
 t182:=Tryz.underlying260
 a182:=Tryz.isAgg260
 z182:=Tryz.sizeOf260
 v182:=Tryz.zeroValue260
 t183:=Tryz.underlying261
 a183:=Tryz.isAgg261
 z183:=Tryz.sizeOf261
 v183:=Tryz.zeroValue261
 t218:=Tryz.underlying276
 a218:=Tryz.isAgg276
 z218:=Tryz.sizeOf276
 v218:=Tryz.zeroValue276
 t222:=Tryz.underlying280
 a222:=Tryz.isAgg280
 z222:=Tryz.sizeOf280
 v222:=Tryz.zeroValue280
 t228:=Tryz.underlying283
 a228:=Tryz.isAgg283
 z228:=Tryz.sizeOf283
 v228:=Tryz.zeroValue283
 t229:=Tryz.underlying284
 a229:=Tryz.isAgg284
 z229:=Tryz.sizeOf284
 v229:=Tryz.zeroValue284
theorem c8Q(O9 off cap:Nat)(zs:List Int)(w:World)(a:Go.Sort.Holds (Value.int .i64) w O9 off zs.toArray)(b:O9<w.heap.size)(c:zs.length<4611686018427387904):
 Calls Tryz.prog 81 #[.slice (some ⟨O9,off,none⟩) zs.length cap] w fun e w'=>
  e=.returned (.tuple #[])∧∃n os,w'=Go.Sort.grow (Go.Sort.putRow (Value.int .i64) (Go.Sort.ahead w n) O9 off (zs.mergeSort fun x y=>decide (x≤y)).toArray) os:=Any.slices_Sort_int c1L O9 off cap zs w a b c
theorem c6G(p:Option Addr)(cap:Nat)(w:World):Calls Tryz.prog 81 #[.slice p 0 cap] w fun e w'=>e=.returned (.tuple #[])∧w'=w:=Any.slices_Sort_int_none c1L p cap w
theorem c0e:a1q Tryz.prog 81=true:=by kernel_rfl
theorem c8q:b5R:=by
 intro h;refine⟨81,[],[],rfl,c0e,rfl,fun B Z0 G w b d f g h1 j k=>?_⟩;obtain⟨l,_⟩:=h1;obtain⟨q,r2⟩:=j;obtain⟨m,_⟩:=k;obtain⟨v,r,hr⟩:=r2 0 .nils rfl;have n:b= #[]:=b2e.1 l;have a:f= #[]:=b2e.1 m;have o:d= #[v]:=by grind
 have p:v=.slice none 0 0:=hr;subst n;subst a;subst o;subst p;refine(c6G none 0 w).mono ?_;rintro e w' ⟨rfl,rfl⟩;exact⟨_,G,rfl,g,Ext.refl,⟨#[],rfl,rfl,fun i c a=>by simp at a⟩,Bl.refl _ _⟩
theorem c9t{w:World}{β n:Nat}{zs:Array Int}{os:Array Obj}{b:Nat}(hb:b<w.heap.size)(a:b≠β):(Go.Sort.grow (Go.Sort.putRow (Value.int .i64) (Go.Sort.ahead w n) β 0 zs) os).heap[b]?=w.heap[b]?:=by
 have hs:b<(Go.Sort.putRow (Value.int .i64) (Go.Sort.ahead w n) β 0 zs).heap.size:=by rw[Go.Sort.size_putRow];exact hb
 show((Go.Sort.putRow (Value.int .i64) (Go.Sort.ahead w n) β 0 zs).heap++os)[b]?=_;rw[a2W hs];show(w.heap.modify β _)[b]?=_
 grind
theorem d0k{w:World}{β n:Nat}{zs:Array Int}{os:Array Obj}{us:Array Value}{T:TypeId}(hb:w.heap[β]?=some (.cells us T (0,0))):(Go.Sort.grow (Go.Sort.putRow (Value.int .i64) (Go.Sort.ahead w n) β 0 zs) os).heap[β]?=some (.cells (Go.Sort.putCells (Value.int .i64) 0 zs us) T (0,0)):=by
 have a:β<w.heap.size:=(a1U.1 hb).1;have hs:β<(Go.Sort.putRow (Value.int .i64) (Go.Sort.ahead w n) β 0 zs).heap.size:=by rw[Go.Sort.size_putRow];exact a
 show((Go.Sort.putRow (Value.int .i64) (Go.Sort.ahead w n) β 0 zs).heap++os)[β]?=_;rw[a2W hs];show(w.heap.modify β _)[β]?=_;rw[b5q,if_pos rfl,hb];rfl
theorem c8s(l:List Nat):(l.map fun x:Nat=>(x:Int)).mergeSort (fun x y=>decide (x≤y))=(P4 l).map fun x:Nat=>(x:Int):=by unfold P4;rw[List.map_mergeSort];intro a _ b _;simp
theorem c5f:b6Z:=by
 intro k g ver l h D aB aC;refine⟨81,[],[],rfl,c0e,rfl,fun B Z0 G w V X Y d h1 z Z=>?_⟩;obtain⟨aa,_⟩:=h1;obtain⟨aD,r2⟩:=z;obtain⟨ab,_⟩:=Z;obtain⟨v,aE,hr⟩:=r2 0 _ rfl;have ac:V= #[]:=b2e.1 aa;have s:Y= #[]:=b2e.1 ab;have E:X= #[v]:=by grind
 subst ac;subst s;subst E;obtain⟨a,c,ad,aF,aG,_,gn,ob,K,_,A⟩:=hr;rw[D]at K;obtain⟨rfl,rfl⟩:g=gn∧_=ob:=by simpa using K
 obtain⟨_,A⟩:=A rfl _ _ _ _ rfl;obtain⟨_,A,aH⟩:=A k8;have ae:=d.ob k g _ D;obtain⟨_,af,ag,ah,aI⟩:=ae;have r:G.R (root k):=by grind
 obtain⟨f,E,aJ,aK,aL⟩:=A r;obtain⟨us,T,F,ai,aj⟩:=ah r;have ak:f=0:=j4;subst ak;subst E;subst ad;have L:∀y,G.R (k,y)→¬G.Z (G.β (k,y)):=d.nz k g _ D rfl;have al:=d.lv _ r;have am:G.β (root k)<w.heap.size:=al.2.lt;have an:∀i,(hi:i<l.length)→us[i]?=some (Value.int .i64 (l[i]:Int)):=fun i hi=>by obtain⟨u,M,ao⟩:=(aj i (IN l[i]) (by simp[hi])).2 0 (IN l[i]) rfl;have:u=Value.int .i64 (l[i]:Int):=ao.2;rw[this]at M;simpa using M
 have ap:Go.Sort.Holds (Value.int .i64) w (G.β (root k)) 0 (l.map fun x:Nat=>(x:Int)).toArray:=fun j hj=>by
  have aM:j<l.length:=by simpa using hj
  constructor
  . unfold World.cell?
    grind
  . unfold World.frozen?;rw[F];simp
 have N:=c8Q (G.β (root k)) 0 c (l.map fun x:Nat=>(x:Int)) w ap am F6;rw[O0]at N;refine N.mono ?_;rintro e w' ⟨rfl,n,os,rfl⟩;rw[c8s];obtain⟨zs,H⟩:∃zs,zs=((P4 l).map fun x:Nat=>(x:Int)).toArray:=⟨_,rfl⟩
 have aN:zs.size=l.length:=by rw[H];simp[b1Q]
 rw[←H];obtain⟨W,t⟩:=s8 (Go.Sort.grow (Go.Sort.putRow (Value.int .i64) (Go.Sort.ahead w n) (G.β (root k)) 0 zs) os);have C:∀b,b<w.heap.size→b≠G.β (root k)→W.heap[b]?=w.heap[b]?:=fun b h1 z=>by rw[t];exact c9t h1 z
 have O:W.heap[G.β (root k)]?=some (.cells (Go.Sort.putCells (Value.int .i64) 0 zs us) T (0,0)):=by rw[t];exact d0k F
 have P:w.heap.size≤W.heap.size:=by grind
 have I:Bl B w W:=by refine⟨⟨by rw[t];rfl,by rw[t];rfl,by rw[t];rfl,P,fun b hb=>C b j4 j4⟩,fun b o h1 z=>?_⟩;have I:=(a1U.1 h1).1;rw[C b I (fun e=>by subst e;rw[F]at h1;cases h1;simp[isD]at z)];exact h1
 rw[←t];have aq:∀b,G.Z b→b≠G.β (root k):=fun b hb e=>L none r (e▸hb);have Q:∀b,G.Z b→W.heap[b]?=w.heap[b]?:=fun b hb=>C b (d.zb b hb).lt (aq b hb);have R:k<h.length:=by grind
 have ar:p8 h [(k,g,Ob.arr 1 (ver+1) false ((P4 l).map IN))]=h.set k (g,Ob.arr 1 (ver+1) false ((P4 l).map IN)):=rfl;rw[ar];have S:Ext G h w G (h.set k (g,Ob.arr 1 (ver+1) false ((P4 l).map IN))) W:=by
  refine⟨fun _ x=>x,Q,fun p gn ob e=>?_⟩;by_cases q:p=k
  . subst q;rw[D]at e;cases e;refine⟨g,_,E8 R,p7 _,fun _=>⟨fun sz ver' aO es' e=>?_,?_,?_⟩⟩
    . cases e;exact⟨ver,false,_,rfl,by simp[b1Q],j4,fun _=>C8.refl _ _,fun e=>j4⟩
    all_goals grind
  . exact⟨gn,ob,by rw[F4 (Ne.symm q)];exact e,p7 _,fun _=>K7.refl p ob (C8.refl _ _) fun _ _=>C8.refl _ _⟩
 have au:∀p y,p≠k→G.R (p,y)→G.β (p,y)≠G.β (root k):=fun p y q m e=>q (congrArg Prod.fst (d.inj _ _ m r e));refine⟨_,G,rfl,?_,S,⟨#[],rfl,rfl,fun i c s=>by simp at s⟩,I⟩;refine d.update k g _ R S (fun p y q=>.inl (C8.refl _ _)) (fun p y q m=>C _ (d.lv _ m).2.lt (au p y q m)) P (fun b hb=>(d.zb b hb).eq (Q b hb)) (fun b hb=>.inl hb) (fun _ _ _ _ x=>x) (fun y m=>⟨(d.lv _ m).1,?_,fun _=>L y m,fun av J e=>congrArg Prod.snd (d.inj _ _ m J e),fun p av q J e=>q (congrArg Prod.fst (d.inj _ _ m J e)).symm⟩) (fun e=>by cases e) ?_
 . by_cases U:y=none
   . subst U;exact U8.of O
   . exact(d.lv _ m).2.eq (C _ (d.lv _ m).2.lt fun e=>U (congrArg Prod.snd (d.inj _ _ m r e)))
 . refine⟨j4,by simpa[b1Q]using af,ag,fun _=>⟨_,T,O,by rw[Go.Sort.putCells,Array.size_mapIdx];exact ai,fun i e he=>?_⟩,fun h=>absurd r h⟩;have aw:i<(P4 l).length:=(by grind);have ax:i<l.length:=(by grind);have ay:e=IN (P4 l)[i]:=(by grind);subst ay;refine⟨rfl,fun j c s=>?_⟩;cases j with
   |succ j=>simp[l6]at s
   |zero=>
    have az:c=IN (P4 l)[i]:=(U4 s).symm;subst az;refine⟨Value.int .i64 ((P4 l)[i]:Int),?_,rfl,rfl⟩;have hu:=an i ax;have aA:zs[i]! =((P4 l)[i]:Int):=by rw[H];simp[aw]
    unfold Go.Sort.putCells;rw[Array.getElem?_mapIdx,show i*1+0=i by omega,hu];simp only[a2Y];rw[if_pos ⟨E0 _,j4⟩];simp[aA]
set_option maxHeartbeats 16000000
def b4E(t:k7)(s:By)(r:PV):Prop:=∃c C,a2s t s c C∧(0≤FC c C 0 0∧r=.tup [WR t (wr t s (FC c C) (FC c C 0 0).toNat 0 0 (FC c C 0 0)),IN s.length,I 0]∨FC c C 0 0<0∧∃l:Nat,r=.tup [.agg [.nils,.nils],IN l,I 61])
theorem d0d{L:List Nat}(h:L.Pairwise (· < ·))(h0:0∈L):∃l,L=0::l:=by
 match L,h,h0 with
 |a::l,h,h0=>
  rcases Y8.1 h0 with h1|h1
  . exact⟨l,by rw[h1]⟩
  . have:=(List.pairwise_cons.1 h).1 0 h1;omega
theorem c7U(n:Nat)(c:List (List Nat))(C:List (List Int)):(W6 n (n+1) c C).map B6=KF n c C:=by unfold W6 KF;rw[a2D];refine O1 fun j _=>?_;have h:n<j+(n+1):=j4;simp only[Function.comp_apply,if_pos h];cases c.getD j []<;>rfl
theorem b8r(t:k7)(a:s7 t)(s:By)(hs:s.length≤1100000000)(hb:a0m s=none):∃r,b4E t s r∧F0 10 [1,1,0,0] [TP t,St s] r:=by
 have u:=a1F a;have w:=b9Q s hs;have i:=b4x t a.ok;have y:T5 t=true:=(a7a t).2 a;rw[y]at i;refine a3u mixed (X:=X10) c10 27 (by simp[X10]) (by kernel_rfl) fun Q j u=>?_;simp[X10];refine l8 w ?_;simp[hb];refine l8 i ?_;simp;obtain⟨r,ws,⟨k,R8,R9,R11,R12,R13,R14,g15,rfl,rfl⟩,z⟩:=c9w t a s hs (1,.var [IN t.modes,UN t.accept,.slc (t.rules.map RP)]) (1,.var [.nils,.nils]) dd dd;refine U5 z ?_;simp;obtain⟨r,ws,⟨c,kn,last,ver,R15,R16,R17,R18,g19,g20,A,rfl,m,rfl⟩,B⟩:=c2r c5f c8q t a s hs k (1,.var [IN t.modes,UN t.accept,.slc (t.rules.map RP)]) (1,.var [.nils,.nils]) dd dd (1,.var (TC t)) R8 R9 R11 R12 R13 R14 g15;refine U5 B ?_;simp;obtain⟨r,ws,⟨C,P,R21,R22,R23,R24,R25,R26,rfl,E,rfl⟩,F⟩:=c6s t a s hs k (1,.var [IN t.modes,UN t.accept,.slc (t.rules.map RP)]) (1,.var [.nils,.nils]) dd dd (1,.var (TC t)) R8 R9 R11 R12 R13 R14 R15 R16 R17 R18 (g19,.dead) (g20,.dead) dd dd dd dd (A,.dead) 0 last ver c kn m;refine U5 F ?_;have b:=m.a2N a E;have d:=b6a s.length (s.length+1) c C;obtain⟨l,e⟩:=d0d (b.sorted 0 (E0 _)) b.root;have n:=b.pq.len 0 (E0 _) j4;obtain⟨v,D,o⟩:∃v D,C.getD 0 []=v::D:=by
  match hX:C.getD 0 []with
  | []=>rw[hX,e]at n;simp at n
  |v::D=>exact⟨v,D,rfl⟩
 have f:FC c C 0 0=v:=by unfold FC a0f;rw[e,o];simp
 have p:(W6 s.length (s.length+1) c C)[0]'(by rw[d];omega)=.agg [.slc ((0::l).map IN),.uslc ((v::D).map I)]:=by
  have h:(W6 s.length (s.length+1) c C)[0]?=some (.agg [.slc ((0::l).map IN),.uslc ((v::D).map I)]):=by rw[c1p (E0 _) j4,e,o];rfl
  rw[l9 (by rw[d];omega)]at h;exact U4 h
 have G:=c7U s.length c C;have H:(∀x,x∈W6 s.length (s.length+1) c C→D9 x=true)=True:=eq_true (b8F _ _ _ _);have J:List.map (B6∘SA) (D6 t)=(D6 t).map SA:=O1 fun _ _=>rfl;have q:(D6 t).length=(j8 t).length:=by simp[D6]
 have K:List.take (j8 t).length (List.map SA (D6 t))=(D6 t).map SA:=a0t (by simp[q]);have L:List.take (j8 t).length (List.map SP (j8 t))=(j8 t).map SP:=a0t k8;have M:List.take (s.length+1) (KF s.length c C)=KF s.length c C:=a0t (by grind);by_cases g:v<0
 . simp[d,p,g,-b0f];rw[b0f];unfold A9;simp[-b0f];refine j _ _ _ ⟨c,C,b,.inr ⟨by rw[f];exact g,last,rfl⟩⟩ ?_;simp[X10]
 . have hw:=fun N O=>c5k t a s hs c C b N O (by rw[f];omega);simp[d,p,g,G,H,J,K,L,M,q];refine l8 (hw _ _) ?_;simp;refine j _ _ _ ⟨c,C,b,.inl ⟨by rw[f];omega,rfl⟩⟩ ?_;simp[X10]
def b9C(t:k7)(s:By)(r:PV):Prop:=∃c C,a2s t s c C∧(0≤FC c C 0 0∧r=I (FC c C 0 0)∨FC c C 0 0<0∧r=I (-1))
theorem a2s.b8j{t:k7}{s:By}{c:List (List Nat)}{C:List (List Int)}(h:a2s t s c C)(a:s7 t)(h0:0≤FC c C 0 0):∃b,E5 t start (wr t s (FC c C) (FC c C 0 0).toNat 0 0 (FC c C 0 0))=some b∧B8 t b=true∧J8 t (wr t s (FC c C) (FC c C 0 0).toNat 0 0 (FC c C 0 0))=s∧((C5 t (wr t s (FC c C) (FC c C 0 0).toNat 0 0 (FC c C 0 0))).length:Int)=FC c C 0 0:=by
 have:=h.b7i a (FC c C 0 0).toNat 0 0 (E0 _) h.root h0 j4;have e:(j8 t).getD 0 D5=start:=by rw[B0,a2t a];rfl
 rw[e]at this;exact this
section
variable{a b:k7}
structure Few(a b:k7):Prop where
 modes:a.modes=b.modes
 acc:a.accept=b.accept
 rules:∀r∈a.rules,r∈b.rules
theorem Few.B8(h:Few a b)(s:State):T.B8 a s=T.B8 b s:=by unfold T.B8;rw[h.modes,h.acc]
theorem Few.step(h:Few a b){s s':State}{k:Nat}(hs:T.step a s k=some s'):∃c,T.step b s c=some s'∧(a.rules.getD k default)=(b.rules.getD c default):=by
 unfold T.step at hs⊢;obtain⟨r,hr,hs⟩:=X1.1 hs;obtain⟨j,hj,he⟩:=a1I (h.rules r (D0 hr));refine⟨j,?_,?_⟩
 . grind
 . grind
theorem Few.run(h:Few a b):∀{q:List Nat} {s s':State},E5 a s q=some s'→∃q',E5 b s q'=some s'∧J8 b q'=J8 a q∧C5 b q'=C5 a q
 | [],s,s',hs=>⟨[],hs,rfl,rfl⟩
 |k::q,s,s',hs=>by
  obtain⟨s1,e,f⟩:=X1.1 (show(T.step a s k).bind (fun s'=>E5 a s' q)=some s' from hs);obtain⟨c,h1,d⟩:=h.step e;obtain⟨q',g1,g2,g3⟩:=h.run f;refine⟨c::q',?_,?_,?_⟩
  . show(T.step b s c).bind _=_;rw[h1];exact g1
  . rw[a3L,a3L,g2,d]
  . show(b.rules.getD c default).cells++C5 b q'=(a.rules.getD k default).cells++C5 a q;rw[g3,d]
theorem Few.lng(h:Few a b){l:List Nat}{x:By}(c:S8 a l x):S8 b l x:=by obtain⟨q,s',h1,d,e,f⟩:=c;obtain⟨q',g1,g2,g3⟩:=h.run h1;exact⟨q',s',g1,by rw[←h.B8];exact d,g3.trans e,g2.trans f⟩
theorem Few.two(h:Few a b)(c:Two a):Two b:=by obtain⟨l,x,y,d,e,f⟩:=c;exact⟨l,x,y,h.lng d,h.lng e,f⟩
theorem c8l{t:k7}(h:¬Two t){l:List Nat}{x y:By}(a:S8 t l x)(b:S8 t l y):x=y:=Classical.byContradiction fun c=>h ⟨l,x,y,a,b,c⟩
end
def c1M(c:Nat):UInt8:=if c=1 then 97 else if c=3 then 98 else if c=9 then 99 else 32
def c0P(b:UInt8):Nat:=if b=97 then 1 else if b=98 then 3 else if b=99 then 9 else 0
theorem d1V:∀k,k<4→((H7 0).rules.getD k default).print=((H7 0).rules.getD k default).cells.map c1M∧((H7 0).rules.getD k default).cells=((H7 0).rules.getD k default).print.map c0P
 |0,_=>⟨H9,H9⟩
 |1,_=>⟨H9,H9⟩
 |2,_=>⟨H9,H9⟩
 |3,_=>⟨H9,H9⟩
 |k+4,h=>absurd h j4
theorem b1T:∀(q:List Nat) (s s':State),E5 (H7 0) s q=some s'→J8 (H7 0) q=(C5 (H7 0) q).map c1M∧C5 (H7 0) q=(J8 (H7 0) q).map c0P
 | [],s,s',h=>⟨rfl,rfl⟩
 |k::q,s,s',h=>by obtain⟨s1,a,b⟩:=X1.1 (show(T.step (H7 0) s k).bind (fun s'=>E5 (H7 0) s' q)=some s' from h);obtain⟨h1,c⟩:=d1V k (a2B a);obtain⟨g1,g2⟩:=b1T q s1 s' b;have d:C5 (H7 0) (k::q)=((H7 0).rules.getD k default).cells++C5 (H7 0) q:=rfl;rw[a3L,d,S0,S0,←g1,←g2,←h1,←c];exact⟨rfl,rfl⟩
theorem b6e:¬Two (H7 0):=fun⟨l,x,y,⟨q,s,a1,_,a3,a4⟩,⟨q',s',a,_,b,c⟩,d⟩=>d (by rw[←a4,←c,(b1T q _ _ a1).1,(b1T q' _ _ a).1,a3,b])
theorem c0Z:∃s',E5 (H7 0) start [0,1,3,2]=some s'∧B8 (H7 0) s'=true:=by refine⟨_,rfl,H9⟩
theorem b6P:S8 (H7 0) [1,3,0,9] [97,98,32,99]:=by obtain⟨s',h1,a⟩:=c0Z;exact⟨_,s',h1,a,H9,H9⟩
theorem c6r:Two (H7 4):=by
 have h1:∃s',E5 (H7 4) start [0,1]=some s'∧B8 (H7 4) s'=true:=⟨_,rfl,H9⟩
 have a:∃s',E5 (H7 4) start [4]=some s'∧B8 (H7 4) s'=true:=⟨_,rfl,H9⟩
 obtain⟨s1,a1,a2⟩:=h1;obtain⟨s2,b,c⟩:=a;exact⟨[1,3],[97,98],[45],⟨[0,1],s1,a1,a2,H9,H9⟩,⟨[4],s2,b,c,H9,H9⟩,H9⟩
theorem s7.sm{t:k7}(h:s7 t∧t.modes≤2∧t.rules.length≤8∧∀r∈t.rules,r.cells.length≤3):Sm t:=⟨h.2.1,by have:=h.2.2.1;omega,h.2.2.2⟩
structure a3s(t:k7)(s:By)(q:List Nat):Prop where
 run:∃st,E5 t start q=some st∧B8 t st=true
 text:J8 t q=s
theorem a3s.lng{t:k7}{s:By}{q:List Nat}(h:a3s t s q):S8 t (C5 t q) s:=by obtain⟨st,h1,a⟩:=h.run;exact⟨q,st,h1,a,rfl,h.text⟩
theorem b7P(t:k7)(a:s7 t):∀(q:List Nat) (s s':State),E5 t s q=some s'→∀b∈J8 t q,a3l b=true
 | [],_,_,_=>fun b hb=>by cases hb
 |k::q,s,s',h=>fun b hb=>by
  obtain⟨s1,d,e⟩:=X1.1 (show(T.step t s k).bind (fun s'=>E5 t s' q)=some s' from h);rw[a3L]at hb;rcases I5.1 hb with hb|hb
  . have c:=a2B d;rw[B0,l9 c,a4L]at hb;have:=(a3d (a.sound _ (C4 c))).text;unfold a0m at this
    grind
  . exact b7P t a q s1 s' e b hb
theorem c7B{t:k7}(a:s7 t){q:List Nat}{s s':State}(h:E5 t s q=some s'):a0m (J8 t q)=none:=by unfold a0m;rw[b2c];intro b hb;rw[b7P t a q s s' h b hb];rfl
theorem b4E.ok{t:k7}(d:s7 t){s:By}{r:PV}(h:b4E t s r){q:List Nat}(f:a3s t s q):∃q',r=.tup [WR t q',IN s.length,I 0]∧a3s t s q'∧∀a,a3s t s a→(C5 t q').length≤(C5 t a).length:=by
 obtain⟨c,C,e,h⟩:=h;have l:(j8 t).getD 0 D5=start:=by rw[B0,a2t d];rfl
 have low:∀a,a3s t s a→0≤FC c C 0 0∧FC c C 0 0≤(C5 t a).length:=fun a b=>by obtain⟨st,g1,g2⟩:=b.run;exact e.low d (E0 _) e.root (by grind) g2 (by rw[b.text,List.drop_zero])
 have h0:=(low q f).1;rcases h with⟨_,h⟩|⟨h,_⟩
 . obtain⟨g,i,j,k,m⟩:=e.b8j d h0;refine⟨_,h,⟨⟨g,i,j⟩,k⟩,fun a b=>?_⟩;have:=(low a b).2;omega
 . omega
theorem b9C.ok{t:k7}(d:s7 t){s:By}{r:PV}(h:b9C t s r){q:List Nat}(f:a3s t s q):∃q',r=IN (C5 t q').length∧a3s t s q'∧∀a,a3s t s a→(C5 t q').length≤(C5 t a).length:=by
 obtain⟨c,C,e,h⟩:=h;have m:(j8 t).getD 0 D5=start:=by rw[B0,a2t d];rfl
 have low:∀a,a3s t s a→0≤FC c C 0 0∧FC c C 0 0≤(C5 t a).length:=fun a b=>by obtain⟨st,g1,g2⟩:=b.run;exact e.low d (E0 _) e.root (by grind) g2 (by rw[b.text,List.drop_zero])
 have h0:=(low q f).1;rcases h with⟨_,h⟩|⟨h,_⟩
 . obtain⟨g,i,j,k,l⟩:=e.b8j d h0;refine⟨wr t s (FC c C) (FC c C 0 0).toNat 0 0 (FC c C 0 0),by rw[h];exact congrArg I l.symm,⟨⟨g,i,j⟩,k⟩,fun a b=>?_⟩;have:=(low a b).2;omega
 . omega
theorem c9H:F0 4 [0] [] (B true):=by
 obtain⟨v0,s0⟩:s7 (H7 0)∧Sm (H7 0):=by have h:=b4l 0 j4;exact⟨h.1,s7.sm h⟩
 obtain⟨v4,k⟩:s7 (H7 4)∧Sm (H7 4):=by have h:=b4l 4 j4;exact⟨h.1,s7.sm h⟩
 obtain⟨rw,l,m⟩:=b8r (H7 0) v0 [97,98,32,99] k8 H9;have n:a3s (H7 0) [97,98,32,99] [0,1,3,2]:=⟨c0Z,H9⟩
 obtain⟨q',rfl,f,_⟩:=l.ok v0 n;have g:C5 (H7 0) q'=[1,3,0,9]:=by obtain⟨st,g1,_⟩:=f.run;rw[(b1T q' _ _ g1).2,f.text];decide
 have hS:=b4K v0 s0.m2;obtain⟨o,d,p⟩:=b8W (H7 0) v0 [1,3,0,9] k8 (by have:(H7 0).rules.length=4:=rfl;rw[this];have:([1,3,0,9]:List Nat).length=4:=rfl;rw[this];omega)
 have d:o=.tup [St [97,98,32,99],IN 4,I 0]:=by
  rcases d with⟨x,e,rfl⟩|⟨e,_⟩
  . rw[c8l b6e e b6P];rfl
  . exact absurd ⟨_,b6P⟩ e
 subst d;obtain⟨rc,q,r⟩:=c0B (H7 4) v4 k;rcases q with⟨_,s⟩|⟨w,a,b,rfl,C,D,hb,E,t⟩
 . exact absurd c6r s
 obtain⟨c,u,v⟩:=c2D (H7 0) v0 s0;obtain rfl:c=true:=u.2 b6e;have i:=a9n (H7 0) start v0.ok c7j;have y:B8 (H7 0) start=true:=H9;rw[y]at i;have j:=b4D (C5 (H7 0) q') [1,3,0,9] (by rw[g];simp);rw[decide_eq_true g]at j;have z:F0 18 [0,0,6] [U 4] (TP (H7 4)):=b2O 4;refine E1 c4 8 (by simp[X4]) fun Q A F=>?_;simp[X4];refine l8 c4J ?_;simp;refine l8 m ?_;simp;refine l8 p ?_;simp;refine l8 z ?_;simp;refine l8 r ?_;simp;refine l8 j ?_;simp[show(a==b)=false from beq_eq_false_iff_ne.2 t];refine l8 v ?_;simp;refine l8 c0c ?_;simp;refine l8 i ?_;simp;refine A _ _ ?_;simp[X4]
open Go.Proofs Go.Shelf
def b6A:Go.Shelf.Ren:=⟨fun|166=>31|240=>73|276=>109|n=>n,fun|70=>81|9=>9|3=>3|75=>85|0=>0|72=>83|37=>25|4=>4|164=>222|80=>92|5=>5|n=>n,fun|n=>n⟩
theorem c7n:Lays.n166 Tryz.prog b6A where
 mixed:=by kernel_rfl
 f166:=Tryz.func31.trans (by kernel_rfl)
 f240:=Tryz.func73.trans (by kernel_rfl)
 f276:=Tryz.func109.trans (by kernel_rfl)
 t0:=Tryz.underlying0
 a0:=Tryz.isAgg0
 z0:=Tryz.sizeOf0
 v0:=Tryz.zeroValue0
 t3:=Tryz.underlying3
 a3:=Tryz.isAgg3
 z3:=Tryz.sizeOf3
 v3:=Tryz.zeroValue3
 t4:=Tryz.underlying4
 a4:=Tryz.isAgg4
 z4:=Tryz.sizeOf4
 v4:=Tryz.zeroValue4
 t9:=Tryz.underlying9
 a9:=Tryz.isAgg9
 z9:=Tryz.sizeOf9
 v9:=Tryz.zeroValue9
 t20:=Tryz.underlying20
 a20:=Tryz.isAgg20
 z20:=Tryz.sizeOf20
 v20:=Tryz.zeroValue20
 t37:=Tryz.underlying25
 a37:=Tryz.isAgg25
 z37:=Tryz.sizeOf25
 v37:=Tryz.zeroValue25
 t70:=Tryz.underlying81
 a70:=Tryz.isAgg81
 z70:=Tryz.sizeOf81
 v70:=Tryz.zeroValue81
 t72:=Tryz.underlying83
 a72:=Tryz.isAgg83
 z72:=Tryz.sizeOf83
 v72:=Tryz.zeroValue83
 t75:=Tryz.underlying85
 a75:=Tryz.isAgg85
 z75:=Tryz.sizeOf85
 v75:=Tryz.zeroValue85
 t164:=Tryz.underlying222
 a164:=Tryz.isAgg222
 z164:=Tryz.sizeOf222
 v164:=Tryz.zeroValue222
def c1U:Go.Shelf.Ren:=⟨fun|167=>33|240=>73|276=>109|n=>n,fun|70=>81|5=>5|75=>85|0=>0|72=>83|37=>25|4=>4|164=>222|80=>92|9=>9|n=>n,fun|n=>n⟩
theorem d1g:Lays.n167 Tryz.prog c1U where
 mixed:=by kernel_rfl
 f167:=Tryz.func33.trans (by kernel_rfl)
 f240:=Tryz.func73.trans (by kernel_rfl)
 f276:=Tryz.func109.trans (by kernel_rfl)
 t0:=Tryz.underlying0
 a0:=Tryz.isAgg0
 z0:=Tryz.sizeOf0
 v0:=Tryz.zeroValue0
 t4:=Tryz.underlying4
 a4:=Tryz.isAgg4
 z4:=Tryz.sizeOf4
 v4:=Tryz.zeroValue4
 t5:=Tryz.underlying5
 a5:=Tryz.isAgg5
 z5:=Tryz.sizeOf5
 v5:=Tryz.zeroValue5
 t9:=Tryz.underlying9
 a9:=Tryz.isAgg9
 z9:=Tryz.sizeOf9
 v9:=Tryz.zeroValue9
 t20:=Tryz.underlying20
 a20:=Tryz.isAgg20
 z20:=Tryz.sizeOf20
 v20:=Tryz.zeroValue20
 t37:=Tryz.underlying25
 a37:=Tryz.isAgg25
 z37:=Tryz.sizeOf25
 v37:=Tryz.zeroValue25
 t70:=Tryz.underlying81
 a70:=Tryz.isAgg81
 z70:=Tryz.sizeOf81
 v70:=Tryz.zeroValue81
 t72:=Tryz.underlying83
 a72:=Tryz.isAgg83
 z72:=Tryz.sizeOf83
 v72:=Tryz.zeroValue83
 t75:=Tryz.underlying85
 a75:=Tryz.isAgg85
 z75:=Tryz.sizeOf85
 v75:=Tryz.zeroValue85
 t164:=Tryz.underlying222
 a164:=Tryz.isAgg222
 z164:=Tryz.sizeOf222
 v164:=Tryz.zeroValue222
def c0z:Go.Shelf.Ren:=⟨fun|169=>36|n=>n,fun|70=>81|9=>9|0=>0|72=>83|37=>25|127=>143|3=>3|5=>5|n=>n,fun|n=>n⟩
theorem c5P:Lays.n169 Tryz.prog c0z where
 mixed:=by kernel_rfl
 f169:=Tryz.func36.trans (by kernel_rfl)
 t0:=Tryz.underlying0
 a0:=Tryz.isAgg0
 z0:=Tryz.sizeOf0
 v0:=Tryz.zeroValue0
 t3:=Tryz.underlying3
 a3:=Tryz.isAgg3
 z3:=Tryz.sizeOf3
 v3:=Tryz.zeroValue3
 t9:=Tryz.underlying9
 a9:=Tryz.isAgg9
 z9:=Tryz.sizeOf9
 v9:=Tryz.zeroValue9
 t37:=Tryz.underlying25
 a37:=Tryz.isAgg25
 z37:=Tryz.sizeOf25
 v37:=Tryz.zeroValue25
 t70:=Tryz.underlying81
 a70:=Tryz.isAgg81
 z70:=Tryz.sizeOf81
 v70:=Tryz.zeroValue81
 t72:=Tryz.underlying83
 a72:=Tryz.isAgg83
 z72:=Tryz.sizeOf83
 v72:=Tryz.zeroValue83
 t127:=Tryz.underlying143
 a127:=Tryz.isAgg143
 z127:=Tryz.sizeOf143
 v127:=Tryz.zeroValue143
def c3b:Go.Shelf.Ren:=⟨fun|171=>32|243=>74|246=>110|283=>131|284=>132|285=>133|286=>134|129=>146|317=>152|318=>153|319=>154|320=>155|337=>164|338=>165|n=>n,fun|3=>3|9=>9|2=>2|4=>4|171=>253|0=>0|53=>254|37=>25|5=>5|173=>257|212=>274|51=>268|20=>20|213=>275|46=>142|232=>286|233=>287|n=>n,fun|17=>1|18=>2|19=>3|n=>n⟩
theorem c2z:Lays.n171 Tryz.prog c3b where
 mixed:=by kernel_rfl
 f129:=Tryz.func146.trans (by kernel_rfl)
 f171:=Tryz.func32.trans (by kernel_rfl)
 f243:=Tryz.func74.trans (by kernel_rfl)
 f246:=Tryz.func110.trans (by kernel_rfl)
 f283:=Tryz.func131.trans (by kernel_rfl)
 f284:=Tryz.func132.trans (by kernel_rfl)
 f285:=Tryz.func133.trans (by kernel_rfl)
 f286:=Tryz.func134.trans (by kernel_rfl)
 f317:=Tryz.func152.trans (by kernel_rfl)
 f318:=Tryz.func153.trans (by kernel_rfl)
 f319:=Tryz.func154.trans (by kernel_rfl)
 f320:=Tryz.func155.trans (by kernel_rfl)
 f337:=Tryz.func164.trans (by kernel_rfl)
 f338:=Tryz.func165.trans (by kernel_rfl)
 t0:=Tryz.underlying0
 a0:=Tryz.isAgg0
 z0:=Tryz.sizeOf0
 v0:=Tryz.zeroValue0
 t2:=Tryz.underlying2
 a2:=Tryz.isAgg2
 z2:=Tryz.sizeOf2
 v2:=Tryz.zeroValue2
 t3:=Tryz.underlying3
 a3:=Tryz.isAgg3
 z3:=Tryz.sizeOf3
 v3:=Tryz.zeroValue3
 t4:=Tryz.underlying4
 a4:=Tryz.isAgg4
 z4:=Tryz.sizeOf4
 v4:=Tryz.zeroValue4
 t5:=Tryz.underlying5
 a5:=Tryz.isAgg5
 z5:=Tryz.sizeOf5
 v5:=Tryz.zeroValue5
 t9:=Tryz.underlying9
 a9:=Tryz.isAgg9
 z9:=Tryz.sizeOf9
 v9:=Tryz.zeroValue9
 t20:=Tryz.underlying20
 a20:=Tryz.isAgg20
 z20:=Tryz.sizeOf20
 v20:=Tryz.zeroValue20
 t37:=Tryz.underlying25
 a37:=Tryz.isAgg25
 z37:=Tryz.sizeOf25
 v37:=Tryz.zeroValue25
 t46:=Tryz.underlying142
 a46:=Tryz.isAgg142
 z46:=Tryz.sizeOf142
 v46:=Tryz.zeroValue142
 t51:=Tryz.underlying268
 a51:=Tryz.isAgg268
 z51:=Tryz.sizeOf268
 v51:=Tryz.zeroValue268
 t53:=Tryz.underlying254
 a53:=Tryz.isAgg254
 z53:=Tryz.sizeOf254
 v53:=Tryz.zeroValue254
 t171:=Tryz.underlying253
 a171:=Tryz.isAgg253
 z171:=Tryz.sizeOf253
 v171:=Tryz.zeroValue253
 t173:=Tryz.underlying257
 a173:=Tryz.isAgg257
 z173:=Tryz.sizeOf257
 v173:=Tryz.zeroValue257
 t212:=Tryz.underlying274
 a212:=Tryz.isAgg274
 z212:=Tryz.sizeOf274
 v212:=Tryz.zeroValue274
 t213:=Tryz.underlying275
 a213:=Tryz.isAgg275
 z213:=Tryz.sizeOf275
 t232:=Tryz.underlying286
 a232:=Tryz.isAgg286
 z232:=Tryz.sizeOf286
 v232:=Tryz.zeroValue286
 t233:=Tryz.underlying287
 a233:=Tryz.isAgg287
 z233:=Tryz.sizeOf287
 v233:=Tryz.zeroValue287
 g17:=by kernel_rfl
 g18:=by kernel_rfl
 g19:=by kernel_rfl
def d1m:Go.Shelf.Ren:=⟨fun|219=>102|217=>127|225=>128|224=>129|267=>130|266=>150|314=>151|n=>n,fun|9=>9|3=>3|4=>4|5=>5|46=>142|146=>271|51=>268|n=>n,fun|1=>0|n=>n⟩
theorem c4o:Lays.n219 Tryz.prog d1m where
 mixed:=by kernel_rfl
 f217:=Tryz.func127.trans (by kernel_rfl)
 f219:=Tryz.func102.trans (by kernel_rfl)
 f224:=Tryz.func129.trans (by kernel_rfl)
 f225:=Tryz.func128.trans (by kernel_rfl)
 f266:=Tryz.func150.trans (by kernel_rfl)
 f267:=Tryz.func130.trans (by kernel_rfl)
 f314:=Tryz.func151.trans (by kernel_rfl)
 t3:=Tryz.underlying3
 a3:=Tryz.isAgg3
 z3:=Tryz.sizeOf3
 v3:=Tryz.zeroValue3
 t4:=Tryz.underlying4
 a4:=Tryz.isAgg4
 z4:=Tryz.sizeOf4
 v4:=Tryz.zeroValue4
 t5:=Tryz.underlying5
 a5:=Tryz.isAgg5
 z5:=Tryz.sizeOf5
 v5:=Tryz.zeroValue5
 t9:=Tryz.underlying9
 a9:=Tryz.isAgg9
 z9:=Tryz.sizeOf9
 v9:=Tryz.zeroValue9
 t46:=Tryz.underlying142
 a46:=Tryz.isAgg142
 z46:=Tryz.sizeOf142
 v46:=Tryz.zeroValue142
 t51:=Tryz.underlying268
 a51:=Tryz.isAgg268
 z51:=Tryz.sizeOf268
 v51:=Tryz.zeroValue268
 t146:=Tryz.underlying271
 a146:=Tryz.isAgg271
 z146:=Tryz.sizeOf271
 v146:=Tryz.zeroValue271
 g1:=by kernel_rfl
theorem b5i{n:Nat}{Z:Nat→Prop}{h:Heap}{w:World}(hb:n≤w.heap.size)(a:∀b,Z b→U8 w b)(hd:∀(k g:Nat) o,h[k]?=some (g,o)→o=.dead):s6 n Z (G0 Z) h w where
 base:=hb
 zo:=fun _ h=>.inl h
 zb:=a
 lv:=fun _ h=>h.elim
 nz:=fun _ _ _ _ _ _ h=>h.elim
 fz:=fun _ _ _ _ _ _ h=>h.elim
 inj:=fun _ _ h=>h.elim
 ob:=fun k g o h=>by rw[hd k g o h];trivial
theorem c4D{P:Program}{f:FuncId}(j:a1q P f=true)(s t:ByteArray)(n:Int)(h:∀w,Calls P f #[.string s,.string t] w fun e w'=>e=.returned (.int .i64 n)∧w'=w):Am.Fn P f [0] [.str s,.str t] (.int .i64 n):=by
 refine⟨j,fun w Z b l m=>?_⟩;obtain⟨p,r1⟩:=m;obtain⟨q,c,r⟩:=r1 0 _ rfl;obtain⟨u,d,v⟩:=r1 1 _ rfl;have x:q=.string s:=r;have y:u=.string t:=v;have z:b= #[.string s,.string t]:=by
  subst x;subst y;have A:b.size=2:=p;apply Array.ext (by simpa using A);intro i h1 B
  match i,B with
  |0,_=>rw[a5n j4]at c;simpa using c
  |1,_=>rw[a5n j4]at d;simpa using d
 subst z;refine(h w).mono ?_;rintro e w' ⟨rfl,rfl⟩;refine⟨_,G0 Z,rfl,Bl.refl _ _,b5i (p7 _) l ?_,rfl⟩;intro k g o a
 match k,a with
 |0,a=>simp[X2,B4,U2,l6,I3]at a;exact a.2.symm
 |k+1,a=>simp[X2,B4,U2,l6,I3]at a
def idx(s:By)(c:UInt8):Int:=Go.Lib.indexByte s c
theorem b9P(s:By)(c:UInt8):F0 102 [0] [St s,St [c]] (I (idx s c)):=
 c4D (by kernel_rfl) _ _ _ fun w=>Go.Proofs.Any.stringslite_Index_one c4o ⟨⟨s⟩⟩ c w
theorem c3j{a b:By}{c:UInt8}(h:c∉a):idx (a++c::b) c=a.length:=by
 unfold idx
 induction a with
 |nil=>simp[Go.Lib.indexByte]
 |cons x a d=>
  have f:x≠c:=fun e=>h (by simp[e]);have d:=d fun e=>h (by simp[e]);simp only[a6X,Go.Lib.indexByte,d];rw[if_neg (by simpa using f),if_neg k8];simp
theorem c6A{s:By}{c:UInt8}(h:c∉s):idx s c= -1:=by
 unfold idx
 induction s with
 |nil=>rfl
 |cons x a b=>
  have d:x≠c:=fun e=>h (by simp[e]);have b:=b fun e=>h (by simp[e]);simp only[Go.Lib.indexByte,b];rw[if_neg (by simpa using d)];rfl
theorem d1c(a b:By)(c:UInt8)(h:c∉a)(l:a.length+b.length≤1000000000):F0 65 [0,0,0] [St (a++c::b),St [c]] (.tup [St a,St b,B true]):=by have hi:=b9P (a++c::b) c;rw[c3j h]at hi;refine E1 c65 1 (by simp[X65]) fun Q d m=>?_;simp[X65];refine l8 hi ?_;have e:(a.length:Int)≤a.length+(b.length+1):=j4;have f:(a.length:Int)+1≤a.length+(b.length+1):=j4;have g:=wk1 a.length j4;have i:((a.length:Int)+1).toNat=a.length+1:=j4;have j:(0:Int)≤a.length+1:=j4;have k:(((a.length:Int)+(b.length+1)).toNat-(a.length+1))=b.length:=j4;simp[e,f,g,i,j,k];refine d _ _ ?_;simp[X65]
theorem c7d(s:By)(c:UInt8)(h:c∉s):F0 65 [0,0,0] [St s,St [c]] (.tup [St s,St [],B false]):=by have hi:=b9P s c;rw[c6A h]at hi;refine E1 c65 1 (by simp[X65]) fun Q a b=>?_;simp[X65];refine l8 hi ?_;simp;refine a _ _ ?_;simp[X65]
theorem a9U(a b:By)(c:UInt8)(h:c∉a)(d:a.length+b.length≤1000000000):F0 27 [0,0,0] [St (a++c::b),St [c]] (.tup [St a,St b,B true]):=by refine E1 c27 1 (by simp[X27]) fun Q e f=>?_;simp[X27];refine l8 (d1c a b c h d) ?_;simp;refine e _ _ ?_;simp[X27]
theorem b7T(s:By)(c:UInt8)(h:c∉s):F0 27 [0,0,0] [St s,St [c]] (.tup [St s,St [],B false]):=by refine E1 c27 1 (by simp[X27]) fun Q a b=>?_;simp[X27];refine l8 (c7d s c h) ?_;simp;refine a _ _ ?_;simp[X27]
set_option maxHeartbeats 4000000
abbrev HT(a0 a1 a2 a3 a4 f a6 a7 a8 a9 a10:Row):Heap:=[a0,a1,a2,a3,a4,f,a6,a7,a8,a9,a10]
abbrev FR(g:Nat)(s:By)(no wr:Bool):Row:=(g,.var [St s,B no,B wr])
def Nx(s f s':By)(no:Bool):Prop:=s.length≤1000000000∧(32:UInt8)∉f∧((s=f++32::s'∧no=false)∨(s=f∧s'=[]∧no=true))
theorem b1f{s f s':By}{no:Bool}(a:Nx s f s' no)(g:Nat)(wr:Bool)(a0 a1 a2 a3 a4 a6 a7 a8 a9 a10:Row):
 FI Tryz.prog (.fn (.func 103) [] []) [.ptr 5 g 0] (HT a0 a1 a2 a3 a4 (FR g s false wr) a6 a7 a8 a9 a10) (.tup [St f,B true]) [(5,FR g s' no wr)]:=by
 obtain⟨d,b,a⟩:=a;refine a7Q mixed (X:=a7F) c103 (by simp[a7F]) rfl fun Q c e=>?_;simp[a7F];rcases a with⟨rfl,rfl⟩|⟨rfl,rfl,rfl⟩
 . refine l8 (a9U f s' 32 b (by simp at d;omega)) ?_;simp;refine c _ _ ?_;simp[a7F,L3,a2c]
 . refine l8 (b7T _ 32 b) ?_;simp;refine c _ _ ?_;simp[a7F,L3,a2c]
def a3O(l:By):Nat:=l.foldl (fun n y=>10*n+(y.toNat-48)) 0
theorem b6F{f:By}{k:Nat}(a:k<f.length):a3O (f.take (k+1))=10*a3O (f.take k)+(f[k].toNat-48):=by unfold a3O;rw[J5,l9 a,b2a];rfl
theorem b5B{f:By}(a:∀y∈f,48≤y.toNat∧y.toNat≤57):∀k,k≤f.length→a3O (f.take k)<10^k
 |0,_=>by simp[a3O]
 |k+1,b=>by have h1:=b5B a k j4;have c:=a f[k] (C4 _);rw[b6F j4,Nat.pow_succ];omega
theorem c9A{n:Nat}(a:n<100):a3O (dec n)=n:=by
 have:∀n<100,a3O (dec n)=n:=by decide+kernel
 exact this n a
theorem c4j{n:Nat}(a:n<100):¬(1<(dec n).length∧(dec n)[0]?=some 48):=by
 have:∀n<100,¬(1<(dec n).length∧(dec n)[0]?=some 48):=by decide+kernel
 exact this n a
theorem a7G{s s':By}{no:Bool}{n most:Nat}(b:n<100)(hm:n≤most)(r:Nx s (dec n) s' no)(g:Nat)(a0 a1 a2 a3 a4 a6 a7 a8 a9 a10:Row):
 FI Tryz.prog (.fn (.func 66) [] []) [.ptr 5 g 0,IN most] (HT a0 a1 a2 a3 a4 (FR g s false false) a6 a7 a8 a9 a10) (IN n) [(5,FR g s' no false)]:=by
 have hd:=a2G b;have c:=a0Q n;have d:=c4j b;have i:=c9A b;have j:=b1f r g false a0 a1 a2 a3 a4 a6 a7 a8 a9 a10;obtain⟨f,t⟩:=s8 (dec n);rw[←t]at hd c d i j;have u:¬(f.length:Int)<1:=j4;have v:¬(3:Int)<f.length:=j4;have G:f≠ []:=fun e=>by simp[e]at c
 refine a7Q mixed (X:=X66) c66 (by simp[X66]) rfl fun Q w H=>?_;simp[X66];refine U5 j ?_;obtain⟨L,a⟩:=Q8 (f.length);rw[a]at c u v d;have l:¬L<1:=j4;have m:¬3<L:=j4;by_cases h1:1<L
 case' pos=>
  have h0:f[0]?=some f[0]:=l9 j4;have z:¬f[0].toNat=48:=fun e=>d ⟨h1,by rw[h0];exact congrArg some (a6e.1 e)⟩;simp[a,l,m,h1,h0,z]
 case' neg=>simp[a,l,m,h1]
 all_goals
  refine F5 (fun(x:Nat×PV×PV×PV) vs h=>x.1≤L∧vs=[.ptr 5 g 0,IN most,I 0,St f,B true,IN (a3O (f.take x.1)),x.2.1,B false,IN L,IN x.1,x.2.2.1,x.2.2.2,.uu]∧
   h=HT a0 a1 a2 a3 a4 (FR g s' no false) a6 a7 a8 a9 a10) (fun x=>L-x.1) (0,.uu,.uu,.uu) ⟨E0 _,rfl,rfl⟩ ?_
  rintro⟨k,J,K,M⟩ vs h ⟨g1,rfl,rfl⟩ Q' A C N;dsimp only at g1;by_cases D:k<L
  . have o:k<f.length:=j4;have E:=hd f[k] (C4 _);have p:=b6F o;have O:=b5B hd k j4;have P:10^k≤10:=by
     have:k≤1:=j4
     calc 10^k≤10^1:=Nat.pow_le_pow_right j4 this
      _=10:=rfl
    have hw:=wk1 k j4;obtain⟨y,q⟩:=Q8 (f[k]);rw[q]at E p;have t1:¬y.toNat<48:=j4;have t2:¬57<y.toNat:=j4;simp[D,o,q,t1,t2];rw[hw,a4p (n:=(y.toNat:Int)-48) j4 j4,wrap_ok (n:=(y.toNat:Int)-48) j4 j4,wrap_ok (n:=10*((a3O (f.take k):Nat):Int)) j4 j4,wrap_ok j4 j4,show(10*((a3O (f.take k):Nat):Int)+((y.toNat:Int)-48))=((a3O (f.take (k+1)):Nat):Int)by rw[p];omega];exact A (k+1,_,_,_) _ _ u7 ⟨u7,rfl,rfl⟩
  . obtain rfl:k=L:=j4;have F:f.take k=f:=(by rw[←a];exact K8);have t3:¬(most:Int)<n:=j4;have t4:¬most<n:=j4;simp;refine C _ _ _ ?_;simp[F,i,t3,t4];refine w _ _ ?_;simp[X66,L3]
theorem b7x{s s' f:By}{no:Bool}(a:Nx s f s' no)(g:Nat)(a0 a1 a2 a3 a4 a6 a7 a8 a9 a10:Row):
 FI Tryz.prog (.fn (.func 70) [] []) [.ptr 5 g 0,St f] (HT a0 a1 a2 a3 a4 (FR g s false false) a6 a7 a8 a9 a10) (.tup []) [(5,FR g s' no false)]:=by
 refine a7Q mixed (X:=X70) c70 (by simp[X70]) rfl fun Q c b=>?_;simp[X70];refine U5 (b1f a g false a0 a1 a2 a3 a4 a6 a7 a8 a9 a10) ?_;simp;refine b _ _ ?_;simp[X70,L3]
theorem c1O(s:By)(g:Nat)(a0 a1 a2 a3 a4 a6 a7 a8 a9 a10:Row):
 FI Tryz.prog (.fn (.func 69) [] []) [.ptr 5 g 0] (HT a0 a1 a2 a3 a4 (FR g s true false) a6 a7 a8 a9 a10) (B true) []:=by
 refine a7Q mixed (X:=X69) c69 (by simp[X69]) rfl fun Q a b=>?_;simp[X69];refine a _ _ ?_;simp[X69,L3]
theorem c7m(c:Nat)(l:List Nat):P7 (c::l)=if l=[]then a1s c else a1s c++45::P7 l:=by
 cases l with
 |nil=>simp[P7,a2j]
 |cons d l=>simp[P7,a2j]
theorem b1B{l:List Nat}(h:∀c∈l,c<64):(P7 l).length≤7*l.length:=by
 cases l with
 |nil=>simp[P7]
 |cons c l=>
  have h1:=a9X (h c k8);have a:=c0A (l:=l) fun d hd=>h d (by simp[hd]);simp only[P7,Z9,S9];omega
theorem c3n{c:Nat}{l:List Nat}(a:c<64)(d:(P7 l).length≤900000000):F0 27 [0,0,0] [St (P7 (c::l)),St [45]] (.tup [St (a1s c),St (P7 l),B (decide (l≠ []))]):=by
 have b:(45:UInt8)∉a1s c:=a4G (b4j a) (c:=45) j4 j4;rw[c7m];by_cases h:l=[]
 . subst h;exact b7T _ 45 b
 . rw[if_neg h,decide_eq_true h];have:=a9X a;exact a9U _ _ 45 b j4
abbrev CelI(l:List Nat)(g:Nat)(s':By)(no:Bool)(a0 a1 a2 a3 a4 a6 a7 a8:Row)(l1 a:List Nat)(v4 v6 v7 v8 v10 v11:PV)(c r10:Row)(vs:List PV)(h:Heap):Prop:=
 l=l1++a∧((l1=[]∧v4=.nils)∨(l1≠ []∧∃b,v4=.own 10 b l1.length 1 0 l1.length∧r10=(b,.arr 1 0 false (l1.map UN))))∧
  vs=[.ptr 5 g 0,.nils,St (P7 a),B true,v4,B (!decide (a=[])),v6,v7,v8,B false,v10,v11]∧h=HT a0 a1 a2 a3 a4 (FR g s' no false) a6 a7 a8 c r10
theorem c4u{s s':By}{no:Bool}{l:List Nat}(h0:l≠ [])(i:∀c∈l,c<64)(u:l.length≤1000000)(m:Nx s (P7 l) s' no)(g:Nat)(a0 a1 a2 a3 a4 a6 a7 a8 a9 a10:Row):
 ∃r ws,(r=CL l∧∃b r10,ws=[(5,FR g s' no false),(9,b),(10,r10)])∧FI Tryz.prog (.fn (.func 67) [] []) [.ptr 5 g 0] (HT a0 a1 a2 a3 a4 (FR g s false false) a6 a7 a8 a9 a10) r ws:=by
 refine a3P mixed (X:=X67) c67 (by rfl) (by simp[X67]) k8 (by kernel_rfl) fun Q n v=>?_;simp[X67];refine U5 (b1f m g false a0 a1 a2 a3 a4 a6 a7 a8 a9 a10) ?_;simp;refine F5 (fun(x:List Nat×List Nat×PV×PV×PV×PV×PV×PV×Row×Row) vs h=>CelI l g s' no a0 a1 a2 a3 a4 a6 a7 a8 x.1 x.2.1 x.2.2.1 x.2.2.2.1 x.2.2.2.2.1 x.2.2.2.2.2.1 x.2.2.2.2.2.2.1 x.2.2.2.2.2.2.2.1 x.2.2.2.2.2.2.2.2.1 x.2.2.2.2.2.2.2.2.2 vs h)
  (fun x=>x.2.1.length) ([],l,.nils,.uu,.uu,.uu,.uu,.uu,a9,a10) ⟨rfl,.inl ⟨rfl,rfl⟩,by simp[h0],rfl⟩ ?_
 rintro⟨l1,a,v4,v6,v7,v8,v10,v11,b,r10⟩ vs h ⟨g1,g2,rfl,rfl⟩ Q' j o w;dsimp only at g1 g2;cases a with
 |nil=>
  simp at g1;subst g1;rcases g2 with⟨e,_⟩|⟨_,f,rfl,rfl⟩
  . exact absurd e h0
  simp;refine o _ _ _ ?_;simp;refine n _ _ _ _ ⟨rfl,b,(f,.arr 1 1 true (l.map UN)),rfl⟩ ?_;simp[X67,L3]
 |cons c a=>
  have k:c<64:=i c (by simp[g1]);have p:(P7 a).length≤900000000:=by have h1:=b1B (l:=a) fun d hd=>i d (by simp[g1,hd]);have q:l.length=l1.length+(a.length+1):=(by simp[g1]);omega
  have y:l1.length≤1000000:=by have q:l.length=l1.length+(a.length+1):=(by simp[g1]);omega
  simp;refine l8 (c3n k p) ?_;simp;refine l8 (c4g k) ?_;simp;rcases g2 with⟨rfl,rfl⟩|⟨h1,f,rfl,rfl⟩
  . simp;exact j ([c],a,_,_,_,_,_,_,_,_) _ _ (by dsimp only;simp) ⟨by simpa using g1,.inr ⟨k8,_,rfl,rfl⟩,rfl,rfl⟩
  . have z:¬(140737488355328:Int)<l1.length+1:=j4;have t:l1.length≤140737488355327:=j4;simp[t];exact j (l1++[c],a,_,_,_,_,_,_,_,_) _ _ (by dsimp only;simp) ⟨by simp[g1],.inr ⟨k8,f,k8,k8⟩,rfl,rfl⟩
abbrev UY(b:UInt8):PV:=.int .u8 (b.toNat:Int)
theorem c4x{p:By}{k:Nat}(a:k<p.length):∃h1:2*k<(W4 p).length,∃d:2*k+1<(W4 p).length,(W4 p)[2*k]=a0W (p[k].toNat/16)∧(W4 p)[2*k+1]=a0W (p[k].toNat%16):=by
 have f:=a8l p;refine⟨j4,j4,?_⟩
 induction p generalizing k with
 |nil=>simp at a
 |cons b p c=>
  have e:W4 (b::p)=a0W (b.toNat/16)::a0W (b.toNat%16)::W4 p:=rfl;cases k with
  |zero=>exact⟨rfl,rfl⟩
  |succ k=>
   obtain⟨a1,a2⟩:=c (k:=k) (by simpa using a) (a8l p);simp only[e,show 2*(k+1)=2*k+1+1 by omega,List.getElem_cons_succ];exact⟨a1,a2⟩
theorem hexV{n:Nat}(a:n<256):IntKind.u8.wrap (orI IntKind.i64 (IntKind.i64.wrap ((n:Int)/16*2^min 4 IntKind.i64.bits)) ((n:Int)%16))=n:=by
 have:∀n<256,IntKind.u8.wrap (orI IntKind.i64 (IntKind.i64.wrap (((n:Nat):Int)/16*2^min 4 IntKind.i64.bits)) (((n:Nat):Int)%16))=n:=by decide+kernel
 exact this n a
theorem c4M{α β:Type}(f:α→β){l:List α}{k:Nat}(a:k<l.length):(l.map f).take k++[f l[k]]=(l.map f).take (k+1):=by rw[J5,l9 (by simpa using a),a0V];rfl
abbrev BytI(p:By)(g:Nat)(s':By)(no:Bool)(a0 a1 a2 a3 a4 a6 a7 a8:Row)(k m:Nat)(v4 v6 v7 v10 v11:PV)(b r10:Row)(vs:List PV)(h:Heap):Prop:=
 k≤p.length∧m=2*k∧((k=0∧v4=.nils)∨(0<k∧∃a,v4=.own 10 a k 1 0 k∧r10=(a,.arr 1 0 false ((p.map UY).take k))))∧
  vs=[.ptr 5 g 0,St [],St (W4 p),B true,v4,IN m,v6,v7,B false,B false,v10,v11]∧h=HT a0 a1 a2 a3 a4 (FR g s' no false) a6 a7 a8 b r10
theorem c7t{s s':By}{no:Bool}{p:By}(E:p.length≤1000000)(w:Nx s (a0O p) s' no)(g:Nat)(a0 a1 a2 a3 a4 a6 a7 a8 a9 a10:Row):
 ∃r ws,(r=St p∧∃d r10,ws=[(5,FR g s' no false),(9,d),(10,r10)])∧FI Tryz.prog (.fn (.func 68) [] []) [.ptr 5 g 0] (HT a0 a1 a2 a3 a4 (FR g s false false) a6 a7 a8 a9 a10) r ws:=by
 refine c0Y mixed (X:=X68) c68 (by simp[X68]) (by rfl) (by kernel_rfl) fun Q j F=>?_;simp[X68];refine U5 (b1f w g false a0 a1 a2 a3 a4 a6 a7 a8 a9 a10) ?_;by_cases hp:p=[]
 . subst hp;simp[a0O];refine j _ _ _ _ ⟨rfl,a9,a10,rfl⟩ ?_;simp[X68,L3]
 . rw[show a0O p=W4 p by rw[a0O,if_neg hp]]at*;have a:=a8l p;have y:p.length≠0:=(by simpa using hp);have t1:W4 p≠ []:=fun e=>(by simp[e]at a;omega);have t2:W4 p≠ [46]:=fun e=>(by simp[e]at a;omega);have t3:(W4 p).isEmpty=false:=(by simpa using t1);have t4:(W4 p==[46])=false:=(by simpa using t2);simp[t3,t4,a];refine F5 (fun(x:Nat×Nat×PV×PV×PV×PV×PV×Row×Row) vs h=>BytI p g s' no a0 a1 a2 a3 a4 a6 a7 a8 x.1 x.2.1 x.2.2.1 x.2.2.2.1 x.2.2.2.2.1 x.2.2.2.2.2.1 x.2.2.2.2.2.2.1 x.2.2.2.2.2.2.2.1 x.2.2.2.2.2.2.2.2 vs h)
    (fun x=>p.length-x.1) (0,0,.nils,.uu,.uu,.uu,.uu,a9,a10) ⟨E0 _,rfl,.inl ⟨rfl,rfl⟩,rfl,rfl⟩ ?_
   rintro⟨k,m,v4,v6,v7,v10,v11,d,r10⟩ vs h ⟨g1,g2,g3,rfl,rfl⟩ Q' l z G;dsimp only at g1 g2 g3;by_cases n:k<p.length
   . obtain⟨o,i2,i3,i4⟩:=c4x n;rw[←g2]at o i2;simp only[←g2]at i3 i4;have hb:=p[k].toNat_lt;have m1:m<2*p.length:=j4;have m2:(m:Int)<2*p.length:=j4;have m3:=wk1 m j4;simp[a,o,i2,i3,i4,m1,m2];refine l8 (b9c (c:=p[k].toNat/16) j4) ?_;have A:(0:Int)≤m+1:=j4;have z2:(W4 p)[m+1]?=some (a0W (p[k].toNat%16)):=(by rw[l9 i2,i4]);simp[m3,A,z2];refine l8 (b9c (c:=p[k].toNat%16) j4) ?_;have z3:(0:Int)≤(p[k].toNat:Int)/16:=j4;have z4:(0:Int)≤(p[k].toNat:Int)%16:=j4;have z5:¬(p[k].toNat:Int)/16<0:=j4;have q:¬(p[k].toNat:Int)%16<0:=j4;have B:(m:Int)+2=((2*(k+1):Nat):Int):=j4;have t:IntKind.i64.wrap ((m:Int)+2)=((2*(k+1):Nat):Int):=(by rw[B];exact wrap_ok j4 j4);have u:=hexV hb;have v:=c4M UY n;rcases g3 with⟨rfl,rfl⟩|⟨h1,f,rfl,rfl⟩
     . simp[z3,z4,z5,q,t,u];exact l (1,_,_,_,_,_,_,_,_) _ _ u7 ⟨u7,rfl,.inr ⟨k8,_,rfl,by rw[←v];rfl⟩,rfl,rfl⟩
     . have C:k≤140737488355327:=j4;have D:min k p.length=k:=Nat.min_eq_left j4;simp[z3,z4,z5,q,t,u,C,D];exact l (k+1,_,_,_,_,_,_,_,_) _ _ u7 ⟨u7,rfl,.inr ⟨k8,f,rfl,by rw[←v]⟩,rfl,rfl⟩
   . obtain rfl:k=p.length:=j4;have m1:¬m<2*p.length:=j4;have m2:¬(m:Int)<2*p.length:=j4;rcases g3 with⟨e,_⟩|⟨h1,f,rfl,rfl⟩
     . exact absurd e y
     have i:a0n (p.map UY)=some p:=by have:=b3U (p.map fun b=>(b.toNat:Int));simpa[Function.comp_def]using this
     have i:a0n (p.map (B6∘UY))=some p:=i
     simp[a,m1,m2];refine z _ _ _ ?_;simp[i];refine j _ _ _ _ ⟨rfl,d,(f,.arr 1 0 false (p.map UY)),rfl⟩ ?_;simp[X68,L3]
theorem d0q(a:List Nat)(f:a.length≤1100000000):F0 15 [0] [CL a,CL a] (B true):=by
 refine E1 c15 0 (by simp[X15]) fun Q b g=>?_;simp[X15];refine I6 (fun(k:Nat) vs h=>k≤a.length∧vs=[CL a,CL a,.uu,IN k,.uu,.uu,.uu]∧h=[]) (fun k=>a.length-k) 0 ?_ ?_
 . simp
 . rintro k vs h ⟨g1,rfl,rfl⟩ Q' c d i;by_cases e:k<a.length
   . have hw:=wk1 k j4;simp[e,hw];refine c (k+1) _ _ j4 ?_;simp;omega
   . obtain rfl:k=a.length:=j4;simp;refine d _ _ _ ?_;simp;refine b _ _ ?_;simp[X15]
theorem d1s(a:List Nat)(f:a.length≤1100000000):F0 44 [0] [.slc (a.map IN),.slc (a.map IN)] (B true):=by
 refine E1 c44 0 (by simp[X44]) fun Q b g=>?_;simp[X44];refine I6 (fun(k:Nat) vs h=>k≤a.length∧vs=[.slc (a.map IN),.slc (a.map IN),.uu,IN k,.uu,.uu,.uu]∧h=[]) (fun k=>a.length-k) 0 ?_ ?_
 . simp
 . rintro k vs h ⟨g1,rfl,rfl⟩ Q' c d i;by_cases e:k<a.length
   . have hw:=wk1 k j4;simp[e,hw];refine c (k+1) _ _ j4 ?_;simp;omega
   . obtain rfl:k=a.length:=j4;simp;refine d _ _ _ ?_;simp;refine b _ _ ?_;simp[X44]
theorem c7E(c q:List Nat)(a:c.length≤1100000000)(b:q.length≤1100000000):F0 11 [0] [.agg [CL c,.slc (q.map IN)],.agg [CL c,.slc (q.map IN)]] (B true):=by refine E1 K3 2 (by simp[X11]) fun Q d e=>?_;simp[X11];refine l8 (b4D c c a) ?_;simp;refine l8 (d1s q b) ?_;simp;refine d _ _ ?_;simp[X11]
theorem sh4(n:Nat):(n:Int).fdiv (2^min 4 IntKind.u8.bits)=(n:Int)/16:=by rw[show(2:Int)^min 4 IntKind.u8.bits=16 from rfl,Int.fdiv_eq_ediv_of_nonneg _ j4]
theorem digit{c:Nat}(a:c<16):([48,49,50,51,52,53,54,55,56,57,97,98,99,100,101,102]:By)[c]?=some (a0W c):=by
 have:∀c<16,([48,49,50,51,52,53,54,55,56,57,97,98,99,100,101,102]:By)[c]?=some (a0W c):=by decide+kernel
 exact this c a
theorem d0V{n:Nat}(a:n<256):a3G IntKind.u8 (n:Int) 15=(n:Int)%16:=by
 have:∀n<256,a3G IntKind.u8 ((n:Nat):Int) 15=((n:Nat):Int)%16:=by decide+kernel
 exact this n a
theorem c9x{s:By}{k:Nat}(a:k<s.length):W4 (s.take (k+1))=W4 (s.take k)++[a0W (s[k].toNat/16),a0W (s[k].toNat%16)]:=by rw[J5,l9 a];unfold W4;rw[List.flatMap_append];rfl
theorem d1d(s:By)(hs:s.length≤1000000):F0 35 [0] [St s] (St (a0O s)):=by
 refine E1 c35 3 (by simp[X35]) fun Q b a=>?_;by_cases h0:s=[]
 . subst h0;simp[X35];refine b _ _ ?_;simp[X35,a0O]
 . have e:s.isEmpty=false:=(by simpa using h0);simp[X35,e];refine I6 (fun(k:Nat) vs h=>k≤s.length∧vs=[St s,.uu,.own 2 1 (W4 (s.take k)).length 1 0 (W4 (s.take k)).length,.uu,.uu,IN s.length,IN k,.uu]∧
    h=[dd,dd,(1,.arr 1 0 false ((W4 (s.take k)).map UY))]) (fun k=>s.length-k) 0 ?_ ?_
   . simp[W4]
   . rintro k vs h ⟨g1,rfl,rfl⟩ Q' f g t;by_cases d:k<s.length
     . have hw:=wk1 k j4;have hb:=s[k].toNat_lt;have i:=sh4 s[k].toNat;have j:=digit (c:=s[k].toNat/16) j4;have l:=digit (c:=s[k].toNat%16) j4;have m:((s[k].toNat:Int)/16).toNat=s[k].toNat/16:=j4;have n:(0:Int)≤(s[k].toNat:Int)/16:=j4;have o:=d0V hb;have p:((s[k].toNat:Int)%16).toNat=s[k].toNat%16:=j4;have q:(0:Int)≤(s[k].toNat:Int)%16:=j4;have u:=a8l (s.take k);have v:(s.take k).length≤s.length:=F6;obtain⟨N,a⟩:=Q8 ((W4 (s.take k)).length);have r:N≤140737488355326:=j4;simp[d,hw,i,j,l,m,n,o,p,q,a,r];refine f (k+1) _ _ j4 ?_;simp[c9x d,a];omega
     . obtain rfl:k=s.length:=j4;simp;refine g _ _ _ ?_;simp;refine b _ _ ?_;simp[X35,a0O,h0]
def shown(c:Nat):UInt8:=UInt8.ofNat (a2a.getD c 0)
theorem c7Q{c:Nat}(a:c<64):((shown c).toNat:Int)=(a2a.getD c 0:Nat):=by
 have:∀c<64,((shown c).toNat:Int)=(a2a.getD c 0:Nat):=by decide+kernel
 exact this c a
def a0D{α:Type}(z:α)(l:List α)(n k:Nat):List α:=l.take k++List.replicate (n-k) z
theorem b2x{α:Type}{z:α}{l:List α}{k:Nat}(a:k≤l.length):(a0D z l l.length k).length=l.length:=by simp[a0D];omega
theorem b8Z{α:Type}{z:α}{l:List α}{k:Nat}(a:k<l.length):(a0D z l l.length k).set k l[k]=a0D z l l.length (k+1):=by unfold a0D;have h1:(l.take k).length=k:=F6;have b:l.length-k=(l.length-(k+1))+1:=j4;rw[List.set_append,if_neg j4,h1,a6a,b,List.replicate_succ,List.set_cons_zero,J5,l9 a,a2o];rfl
theorem c2t(l:List Nat)(B:l.length≤1000000000)(n:∀c∈l,c<64):F0 13 [0] [CL l] (St (l.map shown)):=by
 refine E1 J9 2 (by simp[X13]) fun Q o C=>?_;have p:¬(140737488355328:Int)<l.length:=j4;have r:l.length≤140737488355328:=j4;have s:l.length≤9223372036854775807:=j4;simp[X13,p,r,s];obtain⟨q,d⟩:=s8 (l.map shown);have f:q.length=l.length:=by simp[d]
 refine I6 (fun(k:Nat) vs h=>k≤l.length∧vs=[.uu,.uu,.own 1 1 l.length 1 0 l.length,.uu,.uu,CL l,IN l.length,IN k,.uu]∧
  h=[dd,(1,.arr 1 0 false ((a0D (0:UInt8) q q.length k).map UY))]) (fun k=>l.length-k) 0 ?_ ?_
 . simp[a0D,f]
 . rintro k vs h ⟨g1,rfl,rfl⟩ Q' t u D;have a:=b2x (z:=(0:UInt8)) (l:=q) (k:=k) j4;by_cases e:k<l.length
   . have hw:=wk1 k j4;have g:l[k]<64:=n _ (C4 _);have i:=c9B g;have v:q[k]'j4=shown l[k]:=(by simp[d]);have w:=b8Z (z:=(0:UInt8)) (l:=q) (k:=k) j4;rw[show(UN (a2a.getD l[k] 0))=UY (shown l[k])by rw[show UY (shown l[k])=PV.int .u8 ((shown l[k]).toNat:Int)from rfl,c7Q g]]at i;have j:((a0D (0:UInt8) q q.length k).map UY).set k (UY (shown l[k]))=(a0D (0:UInt8) q q.length (k+1)).map UY:=(by rw[←w,v,L6]);obtain⟨L,x⟩:∃L,a0D (0:UInt8) q q.length k=L:=⟨_,rfl⟩
     rw[x]at a j⊢;rw[f]at a;have E:(L.map UY)[k]?=some (UY L[k]):=(by simp[a,e]);simp[e,hw];refine l8 i ?_;simp[e,a,j];rw[hw];refine t (k+1) _ _ j4 ?_;simp;omega
   . obtain rfl:k=l.length:=j4;have y:a0D (0:UInt8) q q.length l.length=l.map shown:=(by simp[a0D,d]);rw[y];simp;refine u _ _ _ ?_;have m:a0n ((l.map shown).map UY)=some (l.map shown):=by
      have:=b3U ((l.map shown).map fun b=>(b.toNat:Int));simpa[Function.comp_def]using this
     have A:a0n (l.map (B6∘UY∘shown))=some (l.map shown):=by
      rw[a2D]at m
      exact m
     simp[A];refine o _ _ ?_;simp[X13]
def byT:List Nat:=(List.range 256).map fun b=>(a2a.idxOf? b).getD 255
theorem b3K:byT.length=256:=by simp[byT]
theorem c4b{c:Nat}(a:c<64):byT[(shown c).toNat]?=some c:=by
 have:∀c<64,byT[(shown c).toNat]?=some c:=by decide+kernel
 exact this c a
section
variable{P:Program}
theorem b2q(ks:Nat→Nat×Nat)(gen:Nat→Nat):∀(q:List Nat) (p:Nat),a0K ks gen p (q.map UN)=q.map UN
 | [],_=>rfl
 |_::q,p=>by rw[a0s,a0K,b2q ks gen q];rfl
theorem b1E(ks:Nat→Nat×Nat)(gen:Nat→Nat):∀(q:List Nat) (p:Nat),I3 ks gen p (q.map UN)=[]
 | [],_=>rfl
 |_::q,p=>by rw[a0s,I3,b1E ks gen q];simp
theorem b0H(q:List Nat):B4 (.agg (q.map UN))=q.map UN:=by simp[B4,U2,l6]
theorem d0t{f:FuncId}{szs:List Nat}{args:List PV}{ks:List (Nat×Nat)}{hide:List Nat}{var:Option Nat}{xs:List l5}{l vs:List PV}{h:Heap}{K:B3→Prop}{q:List Nat}(a:Am.Fn P f szs args (.agg (q.map UN)))
 (b:Xr (fns P) xs ⟨l++[.agg (q.map UN)],I8 vs var (.agg (q.map UN)),h⟩ K):Xc (fns P) f szs args false ks hide var xs ⟨l,vs,h⟩ K:=by
 have c:∀ks gen,T4 ks gen (.agg (q.map UN))=.agg (q.map UN):=fun ks gen=>by show PV.agg (a0K ks gen 0 (q.map UN))=_;rw[b2q]
 refine l8 a ⟨?_,?_⟩
 . unfold a3k;rw[b0H,b1E];simp[rOk,b0H,a2u]
 . rw[c,b0H,b1E];exact b
end
def b3s:List Nat:=b7s.map (·.2)
theorem d0R:b0j.length=256:=by unfold b0j;rw[b2f]
theorem c7C:b0j.all A7=true:=by kernel_rfl
theorem c4O(g:F0 45 b3s [] (.agg (byT.map UN)))(l:List Nat)(M:l.length≤1000000000)(u:∀c∈l,c<64):
 F0 12 [1,0,0] [St (l.map shown)] (.tup [.uslc (l.map UN),IN l.length,I 0]):=by
 refine E1 c12 4 (by simp[X12]) fun Q v N=>?_;simp[X12];refine⟨fun a b w=>.inl (by cases a9H w;rfl),d0t (by unfold b3s at g;exact g) ?_⟩;have d:=b3K;have x:=d0R;have y:=c7C;have hp:(byT.map UN).all A7=true:=by kernel_rfl
 have A:l.length≤140737488355328:=j4;have B:l.length≤9223372036854775807:=j4;simp[d,x,y,hp,A,B];refine I6 (fun(k:Nat) vs h=>k≤l.length∧vs=[St (l.map shown),.uu,.uu,.uu,.eptr 2 1 256 1 0 0,.own 3 1 l.length 1 0 l.length,.uu,IN l.length,IN k,.uu,.uu]∧
  h=[dd,dd,(1,.arr 1 0 false (byT.map UN)),(1,.arr 1 0 false ((a0D 0 l l.length k).map UN))]) (fun k=>l.length-k) 0 ?_ ?_
 . simp[a0D,d]
 . rintro k vs h ⟨g1,rfl,rfl⟩ Q' C D O;have i:=b2x (z:=0) (l:=l) (k:=k) j4;by_cases j:k<l.length
   . have hw:=wk1 k j4;have n:l[k]<64:=u _ (C4 _);have e:=c4b n;have o:=b8Z (z:=0) (l:=l) (k:=k) j4;have p:((a0D 0 l l.length k).map UN).set k (UN l[k])=(a0D 0 l l.length (k+1)).map UN:=(by rw[←o,L6]);have q:=(shown l[k]).toNat_lt;have P:(l.map shown)[k]?=some (shown l[k]):=(by simp[j]);have f:(a0D 0 l l.length (k+1))[k]?=some l[k]:=(by rw[←o,E8 j4]);have r:=b2x (z:=0) (l:=l) (k:=k+1) j4;obtain⟨L,E⟩:=Q8 (a0D 0 l l.length k);obtain⟨L1,s⟩:=Q8 (a0D 0 l l.length (k+1));obtain⟨c,t⟩:=Q8 (l[k]);simp only[E,s,t]at i p e q f r n⊢;obtain⟨m,hm⟩:=Q8 ((shown c).toNat);rw[hm]at e q;have t1:m<256:=j4;have t2:(m:Int)<256:=j4;have t3:¬c=255:=j4;have t4:¬(c:Int)=255:=j4;have F:k<L1.length:=j4;have G:L1[k]=c:=(by rw[l9 F]at f;simpa using f);have H:m<byT.length:=(by rw[d];omega);have J:byT[m]=c:=(by rw[l9 H]at e;simpa using e);simp[j,hw,d,i,r,p,J,G,t,hm,t1,t2,t3,t4];refine C (k+1) _ _ j4 ?_;simp[s];omega
   . obtain rfl:k=l.length:=j4;have K:a0D 0 l l.length l.length=l:=(by simp[a0D]);rw[K];simp;refine D _ _ _ ?_;simp;refine v _ _ ?_;simp[X12]
theorem d1n(t:k7)(f:t.rules.length≤1000000)(b:∀r∈t.rules,r.cells.length≤1000000):F0 9 [0] [TP t,TP t] (B true):=by
 refine E1 c9 4 (by simp[X9]) fun Q c g=>?_;simp[X9];refine I6 (fun(k:Nat) vs h=>k≤t.rules.length∧vs=[.uu,.uu,.ptr 2 1 0,.ptr 3 1 0,.uu,IN k,.uu,.uu,.uu]∧
  h=[dd,dd,(1,.var [IN t.modes,UN t.accept,.slc (t.rules.map RP)]),(1,.var [IN t.modes,UN t.accept,.slc (t.rules.map RP)])]) (fun k=>t.rules.length-k) 0 ?_ ?_
 . simp
 . rintro k vs h ⟨g1,rfl,rfl⟩ Q' d e i;by_cases a:k<t.rules.length
   . have hw:=wk1 k j4;have hs:=b5I t.rules[k] t.rules[k] (by have:=b _ (C4 a);omega);simp at hs;simp[a,hw];refine l8 hs ?_;simp[hw];refine d (k+1) _ _ j4 ?_;simp;omega
   . obtain rfl:k=t.rules.length:=j4;simp;refine e _ _ _ ?_;simp;refine c _ _ ?_;simp[X9]
open Go.RowKit
theorem b9x:Tryz.zeroCells106=(List.replicate 256 (Value.int .u8 0)).toArray:=by kernel_rfl
def a5D:Nat→Nat→Nat
 |0,_=>255
 |k+1,j=>if j=a2a.getD k 0 then k else a5D k j
theorem c9u{j:Nat}(hj:j<256):byT[j]?=some (a5D 64 j):=by
 have:∀j<256,byT[j]?=some (a5D 64 j):=by decide+kernel
 exact this j hj
structure BB(w wr:World)(m:Nat)(f:Nat→Nat):Prop where
 below:Below w.heap.size w wr
 size:wr.heap.size=w.heap.size+m
 zero:wr.rowIs w.heap.size 106 256 (fun _=>.int .u8 0)
 row:wr.rowIs (w.heap.size+1) 106 256 (fun j=>.int .u8 (f j:Int))
theorem c8O(w:World):BB w ((w.alloc (.cells Tryz.zeroCells106 106)).alloc (.cells Tryz.zeroCells106 106)) 2 (fun _=>0):=by
 have hc:∀i,i<Tryz.zeroCells106.size→Tryz.zeroCells106[i]?=some (Value.int .u8 0):=fun i hi=>by
  rw[b9x]at hi⊢;have hi:i<256:=by rw[a5Y,b2f]at hi;exact hi
  rw[a5Z,List.getElem?_replicate,if_pos hi]
 have hs:Tryz.zeroCells106.size=256:=by rw[b9x,a5Y,b2f]
 have r1:=World.rowIs_alloc w Tryz.zeroCells106 106 (fun _=>.int .u8 0) hc;have r2:=World.rowIs_alloc (w.alloc (.cells Tryz.zeroCells106 106)) Tryz.zeroCells106 106 (fun _=>.int .u8 0) hc;rw[hs]at r1 r2;have e1:∀(w:World) o,(w.alloc o).heap.size=w.heap.size+1:=fun w o=>by show(w.heap.push o).size=_;rw[a9O]
 rw[e1]at r2;exact⟨((Below.refl _ w).alloc (p7 _) _).alloc (by rw[e1];omega) _,by rw[e1,e1],r1.alloc _,r2⟩
theorem BB.set{w wr:World}{m:Nat}{f:Nat→Nat}(h:BB w wr m f)(i v:Nat):BB w (wr.setCell ⟨w.heap.size+1,i,none⟩ (.int .u8 (v:Int))) m (fun j=>if j=i then v else f j):=
 ⟨h.below.setCell (by show w.heap.size≤w.heap.size+1;omega) _,by simp[h.size],h.zero.setOther (by show w.heap.size≠w.heap.size+1;omega) _,(h.row.set i _).congr fun j _=>by split<;>rfl⟩
theorem BB.alloc{w wr:World}{m:Nat}{f:Nat→Nat}(h:BB w wr m f)(o:Obj):BB w (wr.alloc o) (m+1) f:=
 ⟨h.below.alloc (by have:=h.size;omega) _,by show(wr.heap.push o).size=_;rw[a9O,h.size];omega,h.zero.alloc _,h.row.alloc _⟩
theorem BB.fun{w wr:World}{m:Nat}{f g:Nat→Nat}(h:BB w wr m f)(e:∀j,j<256→f j=g j):BB w wr m g:=⟨h.below,h.size,h.zero,h.row.congr fun j hj=>by rw[e j hj]⟩
def a3F:ByteArray:=⟨(a2a.map UInt8.ofNat).toArray⟩
theorem iterAt_other(w:World)(k j:Nat)(s:ByteArray)(p:Nat)(h:j≠k):(Go.World.iterAt w k s p).heap[j]?=w.heap[j]?:=by simp[Go.World.iterAt,Array.getElem?_setIfInBounds,Ne.symm h]
theorem BB.iter{w wr:World}{m:Nat}{f:Nat→Nat}(h:BB w wr m f)(s:ByteArray)(p:Nat):BB w (Go.World.iterAt wr (w.heap.size+2) s p) m f:=
 ⟨h.below.trans ⟨rfl,rfl,rfl,by simp[Go.World.iterAt],fun j hj=>iterAt_other _ _ _ _ _ j4⟩,by simp[Go.World.iterAt,h.size],h.zero.of_block (iterAt_other _ _ _ _ _ j4),h.row.of_block (iterAt_other _ _ _ _ _ j4)⟩
theorem c6Q{k:Nat}(hk:k<64):∃h:k<a3F.size,(a3F[k]'h).toNat=a2a.getD k 0∧a2a.getD k 0<128:=by
 have:∀k<64,∃h:k<a3F.size,(a3F[k]'h).toNat=a2a.getD k 0∧a2a.getD k 0<128:=by decide+kernel
 exact this k hk
set_option maxHeartbeats 4000000 in
set_option maxRecDepth 100000 in
theorem c2O(w:World):Calls Tryz.prog 45 #[] w fun e w'=>e=.returned (.agg (byT.map fun c:Nat=>Value.int .u8 (c:Int)).toArray)∧Below w.heap.size w w':=by
 go_enter Tryz.func45,Tryz.ntmps45
 go_wp2
 go_loopg [5] 256 (fun g i wr=>∃k:Nat,k≤256∧g=256-k∧i=.int .i64 k∧∃f,BB w wr 2 f∧∀j,j<k→f j=255)
 case atStart=>exact⟨0,j4,rfl,rfl,_,c8O w,fun j hj=>j4⟩
 case round=>
  obtain⟨k,hk,rfl,rfl,f,hB,hf⟩:=hrel;by_cases hk1:k<256
  . have hkz:(k:Int)<256:=j4;have c1:wr.cell? ⟨w.heap.size+1,k,none⟩=some (.int .u8 (f k:Int)):=hB.row.cell hk1;have c2:wr.frozen? ⟨w.heap.size+1,k,none⟩=false:=hB.row.frozen k
    go_wp2
    go_roundg (256-(k+1))
    case measure=>omega
    case rel=>exact⟨k+1,j4,rfl,by go_num,_,hB.set k 255,fun j hj=>by split;rfl;exact hf j j4⟩
  . obtain rfl:k=256:=j4
    go_wp2
    have hB0:BB w wr 2 (a5D 0):=hB.fun fun j hj=>hf j hj;have hsz:=hB0.size;rw[hsz];clear hB hf
    go_loopg [3] 64 (fun g i wx=>∃k:Nat,k≤64∧g=64-k∧BB w wx 3 (a5D k)∧wx.heap[w.heap.size+2]?=some (.stringIter a3F k))
    case atStart=>
     refine⟨0,j4,rfl,hB0.alloc _,?_⟩;show(wr.heap.push _)[w.heap.size+2]?=_;rw[←hsz,Array.getElem?_push_size];rfl
    case round=>
     obtain⟨k,hk,rfl,hB,hi⟩:=hrel;by_cases hk1:k<64
     . obtain⟨h1,h2,h3⟩:=c6Q hk1;have hnx:∀ty,(Instr.next (.pointer (some ⟨w.heap.size+2,0,none⟩)) true ty).run Tryz.prog wr=.ok (.tuple #[.bool true,.int .i64 k,.int .i32 ((a2a.getD k 0:Nat):Int)]) (Go.World.iterAt wr (w.heap.size+2) a3F (k+1)):=
        fun ty=>by rw[Go.Lib.run_next_ascii_at wr _ a3F k ty hi h1 j4,h2]
       have hB2:=hB.iter a3F (k+1);have hi2:=Go.Lib.iterAt_heap wr (w.heap.size+2) a3F k (k+1) hi;obtain⟨m,hm⟩:=Am.Q8 (a2a.getD k 0);have htab:a5D (k+1)=fun j=>if j=m then k else a5D k j:=by funext j;rw[←hm];rfl
       rw[hm]at hnx h3;obtain⟨wi,hwi⟩:=Am.Q8 (Go.World.iterAt wr (w.heap.size+2) a3F (k+1));rw[hwi]at hnx hB2 hi2;have c1:wi.cell? ⟨w.heap.size+1,m,none⟩=some (.int .u8 (a5D k m:Int)):=hB2.row.cell j4;have c2:wi.frozen? ⟨w.heap.size+1,m,none⟩=false:=hB2.row.frozen m;have w1:=Go.Proofs.YtmhbdebagfhimaaGreatDoor.T.a4p (n:=(m:Int)) j4 j4;have w2:=Go.Proofs.YtmhbdebagfhimaaGreatDoor.T.a4p (n:=(k:Int)) j4 j4;have m2:(m:Int)<256:=j4;clear hwi hi hB
       go_wp2
       go_roundg (64-(k+1))
       case measure=>omega
       case rel=>
        refine⟨k+1,j4,rfl,?_,?_⟩
        . rw[htab];exact hB2.set m k
        . rw[Below.heap_setCell _ _ _ _ (by show w.heap.size+2≠w.heap.size+1;omega)];exact hi2
     . obtain rfl:k=64:=j4;have hnx:∀ty,(Instr.next (.pointer (some ⟨w.heap.size+2,0,none⟩)) true ty).run Tryz.prog wr=.ok (.tuple #[.bool false]) wr:=
        fun ty=>Go.Lib.run_next_end_at wr _ a3F 64 ty hi (by decide+kernel)
       obtain⟨cz,z1,z2,z3⟩:=hB.zero;obtain⟨cr,r1,r2,r3⟩:=hB.row;have hi6:(Tryz.prog.info? 106).map (·.size)=some 256:=(by kernel_rfl);have hi7:(Tryz.prog.info? 106).map (·.size)=some cr.size:=(by rw[r2];exact hi6);have hsz2:cz.size=cr.size:=j4;have ho:cr.all (·.oneCell')=true:=by rw[Array.all_eq_true];intro i hi;have:=r3 i j4;rw[a5n hi]at this;rw[U4 this];rfl
       have hres:cr=(byT.map fun c:Nat=>Value.int .u8 (c:Int)).toArray:=by
        apply Array.ext
        . rw[r2,a5Y,O0,b3K]
        . intro i h1 h2;have e1:=r3 i j4;rw[a5n h1]at e1;have e2:=c9u (j:=i) j4;rw[U4 e1,List.getElem_toArray,a0V];rw[l9 (by rw[b3K];omega)]at e2;rw[U4 e2]
       have hbw:Below w.heap.size w (wr.setRow w.heap.size cr):=hB.below.trans ⟨rfl,rfl,rfl,k8,fun j hj=>setRow_other _ _ _ _ j4⟩;have hzz:=setRow_heap wr w.heap.size cz cr 106 (0,0) z1;clear hB hi;subst hres
       go_wp2_with (first|(refine wpList_load_row rfl 106 (.tmp 1) rfl (w.heap.size+1) rfl 106 _ (0,0) _ r1 Tryz.underlying106 rfl hi7 ?_)|(refine wpList_store_row rfl 106 (.tmp 0) (.tmp 21) rfl w.heap.size _ rfl rfl 106 cz z1 hi7 hsz2 ho ?_))
       refine bodyPost_ret (v:=.agg (byT.map fun c:Nat=>Value.int .u8 (c:Int)).toArray) ?_ ?_ ?_
       . exact results_cell_row (p:=0) (ty:=106) rfl _ _ w.heap.size 106 _ (0,0) _ rfl hzz Tryz.underlying106 rfl hi7
       . rfl
       . exact⟨rfl,hbw⟩
set_option maxRecDepth 100000 in
theorem c9v:Am.F0 45 b3s [] (.agg (byT.map UN)):=by
 refine⟨by kernel_rfl,fun w Z va hz hl=>?_⟩;obtain⟨e1,_⟩:=hl;obtain rfl:va= #[]:=b2e.1 e1;refine(c2O w).mono ?_;rintro e w' ⟨rfl,hb⟩;refine⟨_,Am.G0 Z,rfl,⟨hb,fun k o hk _=>?_⟩,b5i hb.size (fun b hb'=>(hz b hb').eq (hb.block b (hz b hb').lt)) ?_,?_⟩
 . rcases a4N k w.heap.size with h|h
   . rw[hb.block k h];exact hk
   . rw[Array.getElem?_eq_none h]at hk;cases hk
 . intro k g o hk;unfold Am.X2 at hk;rw[b0H,b1E]at hk;have:=D0 hk;exact(Prod.mk.inj (a9H this)).2
 . show Am.j9 _ _ _ _ _ (.agg (Am.a0K _ _ 0 (byT.map UN)));rw[b2q];refine⟨_,rfl,k8,fun i c hi=>?_⟩;rw[H6]at hi;obtain⟨x,hx,rfl⟩:=C9.1 hi;exact⟨_,by rw[a5Z,H6,hx];rfl,rfl⟩
theorem a5M{l:By}{a b:Nat}(h:∀y∈l,a≤y.toNat∧y.toNat≤b)(d:32<a):(32:UInt8)∉l:=a4G h (c:=32) d j4
theorem a5x{f s:By}(a:(32:UInt8)∉f)(b:f.length+s.length≤999999999):Nx (f++32::s) f s false:=⟨F6,a,.inl ⟨rfl,rfl⟩⟩
theorem b7m{f:By}(a:(32:UInt8)∉f)(b:f.length≤999999999):Nx f f [] true:=⟨j4,a,.inr ⟨rfl,rfl,rfl⟩⟩
theorem c7V{t:k7}(h1:t.modes<100)(a:t.accept<100)(gt:Nat)(x y z:PV)(a0 a2 a3 a4 a5 a6 a7 a8 a9 a10:Row):
 FI Tryz.prog (.fn (.func 29) [] []) [.ptr 1 gt 0,St (a2f t)] (HT a0 (gt,.var [x,y,z]) a2 a3 a4 a5 a6 a7 a8 a9 a10) (B true) [(1,(gt,.var [IN t.modes,UN t.accept,z])),(5,FR (a5.1+1) [] true false)]:=by
 have d1:=a0Q t.modes;have d2:=a0Q t.accept;have b:=b7m (a5M (a2G a) j4) j4;have c:=a5x (f:=a3N) (s:=dec t.accept) H9 (by simp[a3N];omega);have d:=a5x (a5M (a2G h1) j4) (s:=a3N++32::dec t.accept) (by simp[a3N];omega);have e:=a5x (f:=a6j) (s:=dec t.modes++32::(a3N++32::dec t.accept)) H9 (by simp[a6j,a3N];omega);refine a7Q mixed (X:=X29) c29 (by simp[X29]) rfl fun Q g h=>?_;simp[X29];refine U5 (b7x e (a5.1+1) a0 (gt,.var [x,y,z]) a2 a3 a4 a6 a7 a8 a9 a10) ?_;simp;refine U5 (a7G (most:=999) h1 j4 d (a5.1+1) a0 (gt,.var [x,y,z]) a2 a3 a4 a6 a7 a8 a9 a10) ?_;simp;refine U5 (b7x c (a5.1+1) a0 (gt,.var [IN t.modes,y,z]) a2 a3 a4 a6 a7 a8 a9 a10) ?_;simp;refine U5 (a7G (most:=255) a j4 b (a5.1+1) a0 (gt,.var [IN t.modes,y,z]) a2 a3 a4 a6 a7 a8 a9 a10) ?_;have hw:=a4p (n:=(t.accept:Int)) j4 j4;simp[hw];refine U5 (c1O [] (a5.1+1) a0 (gt,.var [IN t.modes,UN t.accept,z]) a2 a3 a4 a6 a7 a8 a9 a10) ?_;simp;refine g _ _ ?_;simp[X29,L3]
structure WrR(r:I4):Prop where
 src:r.src<100
 dst:r.dst<100
 left:r.left<100
 right:r.right<100
 ne:r.cells≠ []
 cell:∀c∈r.cells,c<64
 A0:r.cells.length≤1000000
 B7:r.print.length≤1000000
theorem b4n(s:By):(a0O s).length≤2*s.length+1:=by
 unfold a0O;split
 . simp
 . rw[a8l];omega
theorem c7z{r:I4}(hr:WrR r)(gt g2:Nat)(rs:List I4)(D:rs.length≤1000000)(x y:PV)(a0 a3 a4 a5 a6 a7 a8 a9 a10:Row):
 ∃v ws,(v=B true∧∃r5 r6 f g c r10,ws=[(1,(gt,.var [x,y,.own 2 g2 (rs.length+1) 6 0 (rs.length+1)])),(2,(g2,.arr 6 0 false ((rs++[r]).map RP))),(5,r5),(6,r6),(7,f),(8,g),(9,c),(10,r10)])∧
  FI Tryz.prog (.fn (.func 28) [] []) [.ptr 1 gt 0,St (a3B r)] (HT a0 (gt,.var [x,y,.own 2 g2 rs.length 6 0 rs.length]) (g2,.arr 6 0 false (rs.map RP)) a3 a4 a5 a6 a7 a8 a9 a10) v ws:=by
 have d1:=a0Q r.src;have d2:=a0Q r.dst;have d3:=a0Q r.left;have d4:=a0Q r.right;have d5:=b1B hr.cell;have d6:=b4n r.print;have d7:=hr.A0;have d8:=hr.B7;have h:=b7m (a5M (b7W r.print) j4) j4;have i:=a5x (a5M (b8b hr.cell) j4) (s:=a0O r.print) j4;have j:=a5x (a5M (a2G hr.right) j4) (s:=P7 r.cells++32::a0O r.print) F6;have k:=a5x (a5M (a2G hr.left) j4) (s:=dec r.right++32::(P7 r.cells++32::a0O r.print)) F6;have l:=a5x (a5M (a2G hr.dst) j4) (s:=dec r.left++32::(dec r.right++32::(P7 r.cells++32::a0O r.print))) F6;have m:=a5x (a5M (a2G hr.src) j4) (s:=dec r.dst++32::(dec r.left++32::(dec r.right++32::(P7 r.cells++32::a0O r.print)))) F6;have E:=hr.left;have F:=hr.right;have w1:=a4p (n:=(r.left:Int)) j4 j4;have w2:=a4p (n:=(r.right:Int)) j4 j4;have z:PV:=.uu;refine c0Y mixed (X:=X28) c28 (by simp[X28]) rfl (by kernel_rfl) fun Q o G=>?_;simp[X28]
 let a:Row:=(gt,.var [x,y,.own 2 g2 rs.length 6 0 rs.length])
 let b:Row:=(g2,.arr 6 0 false (rs.map RP))
 have p:=a7G (most:=999) hr.src (by have:=hr.src;omega) m (a5.1+1) a0 a b a3 a4 (a6.1+1,.var [St [],.nils,U 0,U 0,I 0,I 0]) a7 a8 a9 a10;refine U5 p ?_;simp;have q:=a7G (most:=999) hr.dst (by have:=hr.dst;omega) l (a5.1+1) a0 a b a3 a4 (a6.1+1,.var [St [],.nils,U 0,U 0,IN r.src,I 0]) a7 a8 a9 a10;refine U5 q ?_;simp;have t:=a7G (most:=255) hr.left j4 k (a5.1+1) a0 a b a3 a4 (a6.1+1,.var [St [],.nils,U 0,U 0,IN r.src,IN r.dst]) a7 a8 a9 a10;refine U5 t ?_;simp[w1];have u:=a7G (most:=255) hr.right j4 j (a5.1+1) a0 a b a3 a4 (a6.1+1,.var [St [],.nils,UN r.left,U 0,IN r.src,IN r.dst]) a7 a8 a9 a10;refine U5 u ?_;simp[w2];obtain⟨v5,H,⟨rfl,c,r10,rfl⟩,w⟩:=c4u hr.ne hr.cell hr.A0 i (a5.1+1) a0 a b a3 a4 (a6.1+1,.var [St [],.nils,UN r.left,UN r.right,IN r.src,IN r.dst]) a7 a8 a9 a10;refine U5 w ?_;simp;obtain⟨v6,J,⟨rfl,d,e,rfl⟩,A⟩:=c7t hr.B7 h (a5.1+1) a0 a b a3 a4 (a6.1+1,.var [St [],CL r.cells,UN r.left,UN r.right,IN r.src,IN r.dst]) a7 a8 c r10;refine U5 A ?_;have C:(rs.length+1)*64≤140737488355328:=j4;simp[a,b,C];refine U5 (c1O [] (a5.1+1) a0 (gt,.var [x,y,.own 2 g2 (rs.length+1) 6 0 (rs.length+1)]) (g2,.arr 6 0 false (rs.map RP++[RP r])) a3 a4 (a6.1+1,.var [St r.print,CL r.cells,UN r.left,UN r.right,IN r.src,IN r.dst]) (a7.1+1,.dead) a8 d e) ?_;simp;refine o _ _ _ _ ⟨rfl,FR (a5.1+1) [] true false,(a6.1+1,.var [St r.print,CL r.cells,UN r.left,UN r.right,IN r.src,IN r.dst]),(a7.1+1,.dead),a8,d,e,rfl⟩ ?_;simp[X28,L3]
set_option maxHeartbeats 8000000
theorem b5Z(r:I4)(l:List I4):a0P (r::l)=a3B r++10::a0P l:=by simp[a0P]
theorem c4h(r:I4):a3B r≠ []:=by intro h;have:=congrArg List.length h;simp[a3B]at this
theorem b8q{r:I4}(hr:WrR r):(a3B r).length≤10000000:=by have d1:=a0Q r.src;have d2:=a0Q r.dst;have d3:=a0Q r.left;have d4:=a0Q r.right;have d5:=b1B hr.cell;have d6:=b4n r.print;have d7:=hr.A0;have d8:=hr.B7;simp[a3B];omega
theorem b0B:∀{l:List I4},(∀r∈l,WrR r)→(a0P l).length≤10000001*l.length
 | [],_=>by simp[a0P]
 |r::l,h=>by have h1:=b8q (h r k8);have b:=b0B fun x a=>h x (a4i _ a);rw[b5Z];simp;omega
abbrev PaI(t:k7)(m k:Nat)(s:By)(a1 a2:Row):Prop:=
 (k=0∧m=t.rules.length+1∧s=a8I t∧a1=(1,.var [I 0,U 0,.own 2 1 0 6 0 0])∧a2=(1,.arr 6 0 false []))∨
 ∃l1 a,t.rules=l1++a∧k=l1.length+1∧m=a.length∧s=a0P a∧a1=(1,.var [IN t.modes,UN t.accept,.own 2 1 l1.length 6 0 l1.length])∧a2=(1,.arr 6 0 false (l1.map RP))
structure PaS where
 (m k:Nat)
 s:By
 (a1 a2 a5 a6 a7 a8 a9 a10:Row)
 (v6 v7 v8 v9 v12 v13 v14 v15:PV)
abbrev PaJ(t:k7)(x:PaS)(vs:List PV)(h:Heap):Prop:=
 PaI t x.m x.k x.s x.a1 x.a2∧vs=[St x.s,.ptr 0 1 0,I 0,I 0,.ptr 1 1 0,IN x.k,x.v6,x.v7,x.v8,x.v9,.uu,.uu,x.v12,x.v13,x.v14,x.v15,.uu]∧
  h=HT (1,.var [I 0,U 0,.nils]) x.a1 x.a2 (0,.dead) (0,.dead) x.a5 x.a6 x.a7 x.a8 x.a9 x.a10
theorem d2e(t:k7)(d:s7 t)(hm:t.modes<100)(f:t.accept<100)(hw:∀r∈t.rules,WrR r)(A:t.rules.length≤20):
 F0 7 [0,0,6,0,0] [St (a8I t)] (.tup [.agg [IN t.modes,UN t.accept,.uslc (t.rules.map RP)],I 0,I 0]):=by
 refine E1 c7 11 (by simp[X7]) fun Q n B=>?_;simp[X7];refine F5 (PaJ t) (fun x=>x.m) ⟨t.rules.length+1,0,a8I t,(1,.var [I 0,U 0,.own 2 1 0 6 0 0]),(1,.arr 6 0 false []),(0,.dead),(0,.dead),(0,.dead),(0,.dead),(0,.dead),(0,.dead),.uu,.uu,.uu,.uu,.uu,.uu,.uu,.uu⟩
  ⟨.inl ⟨rfl,rfl,rfl,rfl,rfl⟩,rfl,rfl⟩ ?_
 rintro⟨m,k,s,a1,a2,a5,a6,a7,a8,a9,a10,v6,v7,v8,v9,v12,v13,v14,v15⟩ vs h ⟨g,rfl,rfl⟩ Q' j o C;dsimp only at g⊢;have D:=b0B hw;rcases g with⟨rfl,rfl,rfl,rfl,rfl⟩|⟨l1,a,e,rfl,rfl,rfl,rfl,rfl⟩
 . have c:=a9U (a2f t) (a0P t.rules) 10 (c8k hm f) (by
    have d1:=a0Q t.modes;have d2:=a0Q t.accept;simp[a2f,a6j,a3N];omega)
   simp;refine l8 c ?_;simp;refine b3j (c7V hm f 1 (I 0) (U 0) (.own 2 1 0 6 0 0) (1,.var [I 0,U 0,.nils]) (1,.arr 6 0 false []) (0,.dead) (0,.dead) a5 a6 a7 a8 a9 a10) ?_;simp;rw[show IntKind.i64.wrap 1=((0+1:Nat):Int)from rfl];exact j ⟨t.rules.length,0+1,a0P t.rules,_,_,_,_,_,_,_,_,_,_,_,_,_,_,_,_⟩ _ _ u7 ⟨.inr ⟨[],t.rules,rfl,rfl,rfl,rfl,rfl,rfl⟩,rfl,rfl⟩
 . cases a with
   |nil=>
    have b:¬(l1.length:Int)+1=0:=j4;obtain rfl:t.rules=l1:=(by simpa using e);obtain⟨i,p,he,q⟩:=b7K t d.ok;obtain rfl:p=0:=he.2 ((a7a t).2 d);simp[b,a0P];refine o _ _ _ ?_;simp;refine l8 q ?_;simp;refine n _ _ ?_;simp[X7]
   |cons r a=>
    have hr:WrR r:=hw r (by simp[e]);have E:=c4h r;have c:=a9U (a3B r) (a0P a) 10 (d0T hr.src hr.dst hr.left hr.right hr.cell) (by have h1:=b0B (l:=a) fun x u=>hw x (by simp[e,u]);have F:=b8q hr;have w:t.rules.length=l1.length+(a.length+1):=(by simp[e]);omega)
    have w:t.rules.length=l1.length+(a.length+1):=(by simp[e]);rw[b5Z];have b:¬(l1.length:Int)+1=0:=j4;simp[b];refine l8 c ?_;simp[b];obtain⟨v,ws,⟨rfl,r5,r6,G,H,J,r10,rfl⟩,y⟩:=c7z hr 1 1 l1 j4 (IN t.modes) (UN t.accept) (1,.var [I 0,U 0,.nils]) (0,.dead) (0,.dead) a5 a6 a7 a8 a9 a10;refine b3j y ?_;have z:IntKind.i64.wrap ((l1.length:Int)+1+1)=(((l1.length+1)+1:Nat):Int):=wk1 (l1.length+1) j4;simp[z];exact j ⟨a.length,l1.length+1+1,a0P a,_,_,_,_,_,_,_,_,_,_,_,_,_,_,_,_⟩ _ _ (by dsimp only;simp) ⟨.inr ⟨l1++[r],a,by simp[e],k8,rfl,rfl,k8,k8⟩,rfl,rfl⟩
open Go.RowKit Go.Proofs Go.Shelf
theorem bldX:Builder.Extra Tryz.prog b6A where
 sizeBuilder:=by kernel_rfl
 liesBuilder:=by kernel_rfl
 t5:=Tryz.underlying5
 a5:=Tryz.isAgg5
 z5:=Tryz.sizeOf5
 v5:=Tryz.zeroValue5
 infoByte:=by kernel_rfl
 cellsByte:=by kernel_rfl
 sizeByte:=by kernel_rfl
 neB5:=H9
theorem d0Q:Builder.Extra Tryz.prog c1U where
 sizeBuilder:=by kernel_rfl
 liesBuilder:=by kernel_rfl
 t5:=Tryz.underlying5
 a5:=Tryz.isAgg5
 z5:=Tryz.sizeOf5
 v5:=Tryz.zeroValue5
 infoByte:=by kernel_rfl
 cellsByte:=by kernel_rfl
 sizeByte:=by kernel_rfl
 neB5:=H9
theorem c6m:Builder.Extra Tryz.prog c0z where
 sizeBuilder:=by kernel_rfl
 liesBuilder:=by kernel_rfl
 t5:=Tryz.underlying5
 a5:=Tryz.isAgg5
 z5:=Tryz.sizeOf5
 v5:=Tryz.zeroValue5
 infoByte:=by kernel_rfl
 cellsByte:=by kernel_rfl
 sizeByte:=by kernel_rfl
 neB5:=H9
abbrev BS(s:By):ByteArray:=⟨⟨s⟩⟩
abbrev OK2(N:Nat)(w w':World):Prop:=Go.Lib.OthersKept 5 (some (N+1)) w w'
structure T6(N:Nat)(w wr:World)(s:By):Prop where
 below:Below N w wr
 bld:Go.Lib.IsBuilderF 83 5 (N+1) (N+1) (Go.Lib.byteCells s) wr
 size:N+2≤wr.heap.size
theorem b4k{N:Nat}{s:List Value}{wr w':World}(h:Go.Lib.IsBuilderF 83 5 (N+1) (N+1) s wr)(hb:∀(k:Nat) (c:Array Value) (fz:Nat×Nat),wr.heap[k]?=some (Obj.cells c 5 fz)→w'.heap[k]?=some (Obj.cells c 5 fz))
 (b:∀c:Array Value,wr.heap[N+1]?=some (Obj.cells c 83 (0,0))→w'.heap[N+1]?=some (Obj.cells c 83 (0,0))):Go.Lib.IsBuilderF 83 5 (N+1) (N+1) s w':=by
 have one:∀p,Go.Lib.BuilderAtF 83 5 (N+1) (N+1) p s wr→Go.Lib.BuilderAtF 83 5 (N+1) (N+1) p s w':=by
  rintro p ⟨h1,v,d,⟨e,a⟩,f⟩;refine⟨h1,v,b _ d,⟨e,?_⟩,f⟩;rcases a with a|⟨g,cap,cur,fz,i,j,l,m⟩
  . exact .inl a
  . exact .inr ⟨g,cap,cur,fz,i,j,hb _ _ _ l,m⟩
 exact h.imp (one _) (one _)
theorem T6.over{N:Nat}{w wr w':World}{s:By}(h:T6 N w wr s)(hb:Below wr.heap.size wr w'):T6 N w w' s:=by
 have a8o:∀(k:Nat) (o:Obj),wr.heap[k]?=some o→w'.heap[k]?=some o:=fun k o a=>by rw[hb.block k (a1U.1 a).1];exact a
 exact⟨h.below.trans (hb.mono (by have:=h.size;omega)),b4k h.bld (fun k c fz a=>a8o _ _ a) (fun c a=>a8o _ _ a),by have:=h.size;have:=hb.size;omega⟩
theorem b7a{N:Nat}{wr w':World}(hb:Below wr.heap.size wr w'):OK2 N wr w':=fun k o a _ _=>by rw[hb.block k (a1U.1 a).1];exact a
theorem T6.drew{N:Nat}{w wr:World}{s:By}(h:T6 N w wr s):T6 N w wr.drew s:=⟨h.below.drew,b4k h.bld (fun _ _ _ h=>h) fun _ h=>h,h.size⟩
theorem T6.alloc{N:Nat}{w wr:World}{s:By}(h:T6 N w wr s)(o:Obj):T6 N w (wr.alloc o) s:=h.over ((Below.refl _ _).alloc (p7 _) _)
theorem T6.setCell{N:Nat}{w wr:World}{s:By}(h:T6 N w wr s){g i T:Nat}{c:Array Value}(b:wr.heap[g]?=some (.cells c T (0,0)))(d:T≠5)(j:N+2≤g)(v:Value):T6 N w (wr.setCell ⟨g,i,none⟩ v) s:=by
 have other:∀(k:Nat) (o:Obj),k≠g→wr.heap[k]?=some o→(wr.setCell ⟨g,i,none⟩ v).heap[k]?=some o:=fun k o a f=>by rw[Below.heap_setCell _ _ _ _ a];exact f
 refine⟨h.below.setCell (by show N≤g;omega) _,b4k h.bld (fun k c' fz a=>other _ _ (fun e=>?_) a) (fun c' a=>other _ _ j4 a),by have:=h.size;simp;omega⟩;subst e;rw[b]at a;cases a;exact d rfl
theorem d1C{n:Nat}(a:n<100):Go.Lib.decDigits n=dec n:=by
 have:∀n<100,Go.Lib.decDigits n=dec n:=by decide+kernel
 exact this n a
theorem b2W{n:Nat}(a:n<100)(w:World):Calls Tryz.prog 32 #[.int .i64 n] w fun e w'=>e=.returned (.string (BS (dec n)))∧w'=w:=by have:=Any.strconv_Itoa_small c2z n a w;rw[d1C a]at this;exact this
theorem c3P(s:By):Go.Lib.strCells (BS s)=Go.Lib.byteCells s:=rfl
theorem b8D(s t:By):Go.Lib.byteCells s++Go.Lib.byteCells t=Go.Lib.byteCells (s++t):=by simp[Go.Lib.byteCells]
theorem a8G{N:Nat}{w wr:World}{s:By}(h:T6 N w wr s)(t:By)(c:s.length+t.length≤1000000000):
 Calls Tryz.prog 31 #[.pointer (some ⟨N+1,0,none⟩),.string (BS t)] wr fun e w'=>e=.returned (.tuple #[.int .i64 t.length,.nilIface])∧T6 N w w' (s++t)∧OK2 N wr w':=by
 refine(Any.Builder_WriteString_k c7n bldX (N+1) (N+1) _ (BS t) wr h.bld (by rw[Go.Lib.byteCells_length];show s.length+t.length≤_;omega) (by have:=h.size;omega)).mono ?_;rintro e w' ⟨rfl,h1,a,b⟩;rw[c3P,b8D]at h1;exact⟨rfl,⟨h.below.trans (a.mono j4),.inr h1,by have:=h.size;have:=a.size;omega⟩,b⟩
theorem wb_c{N:Nat}{w wr:World}{s:By}(h:T6 N w wr s)(c:UInt8)(d:s.length+1≤1000000000):
 Calls Tryz.prog 33 #[.pointer (some ⟨N+1,0,none⟩),.int .u8 c.toNat] wr fun e w'=>e=.returned .nilIface∧T6 N w w' (s++[c])∧OK2 N wr w':=by
 refine(Any.Builder_WriteByte_k d1g d0Q (N+1) (N+1) _ c.toNat wr h.bld (by rw[Go.Lib.byteCells_length];omega) (by have:=h.size;omega)).mono ?_;rintro e w' ⟨rfl,h1,a,b⟩;rw[show [Value.int .u8 (c.toNat:Int)]=Go.Lib.byteCells [c]from rfl,b8D]at h1;exact⟨rfl,⟨h.below.trans (a.mono j4),.inr h1,by have:=h.size;have:=a.size;omega⟩,b⟩
theorem c6P{N:Nat}{w wr:World}{s:By}(h:T6 N w wr s)(h0:s≠ []):
 Calls Tryz.prog 36 #[.pointer (some ⟨N+1,0,none⟩)] wr fun e w'=>e=.returned (.string (BS s))∧Below N w w':=by
 refine(Any.Builder_String_k c5P c6m (N+1) (N+1) s wr h.bld h0).mono ?_;rintro e w' ⟨rfl,_,a,_⟩;exact⟨rfl,h.below.trans (a.mono j4)⟩
theorem c0W{f:FuncId}{a:Am.PV}{v:Value}{s:By}(d:Am.F0 f [0] [a] (Am.PV.str (BS s)))(g:∀G h w n,Am.j9 G h w n v a)(w:World):
 Calls Tryz.prog f #[v] w fun e w'=>e=.returned (.string (BS s))∧Below w.heap.size w w':=by
 refine(d.2 w (fun _=>False) #[v] (fun _ h=>h.elim) ⟨rfl,fun i c b=>?_⟩).mono ?_
 . match i,b with
   |0,b=>cases b;exact⟨v,rfl,g _ _ _ _⟩
   |i+1,b=>simp at b
 . rintro e w' ⟨u,G,rfl,hb,_,j⟩;have hu:u=.string (BS s):=j;exact⟨by rw[hu],hb.bl⟩
theorem b9M{N:Nat}{w wr:World}{s:By}(h:T6 N w wr s){c:Nat}(a:c<64):
 Calls Tryz.prog 34 #[.int .u8 c] wr fun e w'=>e=.returned (.string (BS (a1s c)))∧T6 N w w' s∧OK2 N wr w':=by
 refine(c0W (c2H a) (v:=.int .u8 c) (fun G h w n=>by cases n<;>rfl) wr).mono ?_;rintro e w' ⟨rfl,hb⟩;exact⟨rfl,h.over hb,b7a hb⟩
theorem d0W{N:Nat}{w wr:World}{s:By}(h:T6 N w wr s){t:By}(a:t.length≤1000000):
 Calls Tryz.prog 35 #[.string (BS t)] wr fun e w'=>e=.returned (.string (BS (a0O t)))∧T6 N w w' s∧OK2 N wr w':=by
 refine(c0W (d1d t a) (v:=.string (BS t)) (fun G h w n=>by cases n<;>rfl) wr).mono ?_;rintro e w' ⟨rfl,hb⟩;exact⟨rfl,h.over hb,b7a hb⟩
structure RdR(w:World)(b p:Nat)(r:I4):Prop where
 lt:b<w.heap.size
 c0:w.cell? ⟨b,p,none⟩=some (.string (BS r.print))
 c1:∃a c,w.cell? ⟨b,p+1,none⟩=some (.slice a r.cells.length c)∧∀(k:Nat) x,r.cells[k]?=some x→∃b' o',a=some ⟨b',o',none⟩∧b'<w.heap.size∧w.cell? ⟨b',o'+k,none⟩=some (.int .u8 (x:Nat))
 c2:w.cell? ⟨b,p+2,none⟩=some (.int .u8 (r.left:Nat))
 c3:w.cell? ⟨b,p+3,none⟩=some (.int .u8 (r.right:Nat))
 c4:w.cell? ⟨b,p+4,none⟩=some (.int .i64 (r.src:Nat))
 c5:w.cell? ⟨b,p+5,none⟩=some (.int .i64 (r.dst:Nat))
abbrev Qs(r:I4):List Nat:=[r.src,r.dst,r.left,r.right]
def a4X(r:I4)(j:Nat):By:=((Qs r).take j).flatMap fun n=>dec n++[32]
theorem c5L{r:I4}{j:Nat}(hj:j<4):a4X r (j+1)=a4X r j++(dec ((Qs r).getD j 0)++[32]):=by
 match j,hj with
 |0,_|1,_|2,_|3,_=>simp[a4X]
theorem b8T(r:I4)(j:Nat)(hj:j≤4):(a4X r j).length≤12:=by
 have d1:=a0Q r.src;have d2:=a0Q r.dst;have d3:=a0Q r.left;have d4:=a0Q r.right
 match j,hj with
 |0,_|1,_|2,_|3,_|4,_=>simp[a4X];try omega
abbrev rvB(r:I4)(ca:Option Addr)(cc2:Nat):Obj:=Obj.cells #[Value.string (BS r.print),Value.slice ca r.cells.length cc2,Value.int .u8 r.left,Value.int .u8 r.right,Value.int .i64 r.src,Value.int .i64 r.dst] 65
abbrev rwB(r:I4):Obj:=Obj.cells #[Value.int .i64 r.src,Value.int .i64 r.dst,Value.int .i64 r.left,Value.int .i64 r.right] 3
theorem d1N{w:World}{g:Nat}{r:I4}(h:w.heap[g]?=some (rwB r)){j:Nat}(hj:j<4):w.cell? ⟨g,j,none⟩=some (.int .i64 ((Qs r).getD j 0:Nat)):=by
 rw[cell_of_row w g j _ _ _ h]
 match j,hj with
 |0,_|1,_|2,_|3,_=>rfl
theorem c3o(l:List Nat)(c:Nat):a2j (l++[c])=a2j l++45::a1s c:=by
 induction l with
 |nil=>simp[a2j]
 |cons d l ih=>simp[a2j,ih]
theorem c3U(l:List Nat)(c:Nat):P7 (l++[c])=P7 l++((if l=[]then []else [45])++a1s c):=by
 cases l with
 |nil=>simp[P7,a2j]
 |cons d l=>simp[P7,c3o]
theorem wb45{N:Nat}{w wr:World}{s:By}(h:T6 N w wr s)(hl:s.length+1≤1000000000):
 Calls Tryz.prog 33 #[.pointer (some ⟨N+1,0,none⟩),.int .u8 45] wr fun e w'=>e=.returned .nilIface∧T6 N w w' (s++[45])∧OK2 N wr w':=wb_c h 45 hl
set_option maxHeartbeats 8000000 in
set_option maxRecDepth 100000 in
theorem c2I(t:k7)(hm:t.modes<100)(ha:t.accept<100)(hw:∀r∈t.rules,WrR r)(hn:t.rules.length≤20)(w:World)(a:Option Addr)(cc:Nat)
 (hrd:∀(i:Nat) r,t.rules[i]?=some r→∃b o,a=some ⟨b,o,none⟩∧RdR w b (o+i*6) r):
 Calls Tryz.prog 8 #[.agg #[.int .i64 t.modes,.int .u8 t.accept,.slice a t.rules.length cc]] w fun e w'=>e=.returned (.string (BS (a8I t)))∧Below w.heap.size w w':=by
 go_enter Tryz.func8,Tryz.ntmps8
 go_wp2
 have hF:T6 w.heap.size w ((w.alloc (Obj.cells #[Value.int .i64 t.modes,Value.int .u8 t.accept,Value.slice a t.rules.length cc] 29)).alloc (Obj.cells #[Value.pointer none,Value.slice none 0 0] 83)) []:=by
  have h0:=Go.Lib.fresh_isBuilder 83 5 (w.alloc (Obj.cells #[Value.int .i64 t.modes,Value.int .u8 t.accept,Value.slice a t.rules.length cc] 29));have e1:∀(w:World) o,(w.alloc o).heap.size=w.heap.size+1:=fun w o=>by show(w.heap.push o).size=_;rw[a9O]
  rw[e1]at h0;exact⟨((Below.refl _ w).alloc (p7 _) _).alloc (by rw[e1];omega) _,Go.Lib.IsBuilderF.of h0,by rw[e1,e1];omega⟩
 have hbox:((w.alloc (Obj.cells #[Value.int .i64 t.modes,Value.int .u8 t.accept,Value.slice a t.rules.length cc] 29)).alloc (Obj.cells #[Value.pointer none,Value.slice none 0 0] 83)).heap[w.heap.size]?=some (Obj.cells #[Value.int .i64 t.modes,Value.int .u8 t.accept,Value.slice a t.rules.length cc] 29):=by rw[Go.Lib.alloc_old _ _ _ (by show w.heap.size<(w.heap.push _).size;rw[a9O];omega)];exact heap_alloc_new w _
 obtain⟨w0,hw0⟩:=Am.Q8 ((w.alloc (Obj.cells #[Value.int .i64 t.modes,Value.int .u8 t.accept,Value.slice a t.rules.length cc] 29)).alloc (Obj.cells #[Value.pointer none,Value.slice none 0 0] 83));rw[hw0]at hF hbox⊢;clear hw0;have b0:w0.cell? ⟨w.heap.size,0,none⟩=some (.int .i64 t.modes):=by rw[cell_of_row w0 _ 0 _ _ _ hbox];rfl
 have b1:w0.cell? ⟨w.heap.size,1,none⟩=some (.int .u8 t.accept):=by rw[cell_of_row w0 _ 1 _ _ _ hbox];rfl
 have d1:=a0Q t.modes;have d2:=a0Q t.accept;have g1:¬9223372036854775807<6+(dec t.modes).length:=j4;have g2:¬9223372036854775807<(dec t.modes).length+1+1+1+1+1+1+8:=j4;have g3:¬9223372036854775807<(dec t.modes).length+8+1+1+1+1+1+1+(dec t.accept).length:=j4;have g4:¬9223372036854775807<(dec t.modes).length+((dec t.accept).length+1+1+1+1+1+1+1+1)+1+1+1+1+1+1+1:=j4;have hwa:=wrap_ok (n:=(t.accept:Int)) j4 j4;refine wp_region_still_tail 11 mixed (by kernel_rfl) ?_;simp only[List.take_succ_cons,List.take_zero,List.drop_succ_cons,List.drop_zero]
 still_step
 still_step
 still_call (b2W hm _)
 still_step
 still_step
 still_step
 still_step
 still_step
 still_call (b2W ha _)
 still_step
 still_step
 refine wpStill_nil ?_;have hF:=hF.drew;change wpList _ _ _ _ _ w0.drew;have hbox1:w0.drew.heap[w.heap.size]?=_:=hbox;generalize w0.drew=w1 at hF hbox1⊢;clear b0 b1 g1 g2 g3 g4 hbox
 go_wp2_with (go_at_call 31;refine(a8G hF _ F6).mono ?_)
 rintro e w2 ⟨rfl,hF2,hk2⟩;have hbox2:=hk2 _ _ hbox1 k8 (by intro c fz h;cases h);have b2:w2.cell? ⟨w.heap.size,2,none⟩=some (.slice a t.rules.length cc):=by rw[cell_of_row w2 _ 2 _ _ _ hbox2];rfl
 have hF3:T6 w.heap.size w w2 (a2f t++10::a0P (t.rules.take 0)):=by
  have:a2f t++10::a0P (t.rules.take 0)=a2f t++[10]:=by simp[a0P]
  rw[this];simpa[a2f,a6j,a3N]using hF2
 clear hF hF2 hk2 hbox1 hbox2
 go_wp2
 go_loopg [25] t.rules.length (fun g i wr=>∃k:Nat,k≤t.rules.length∧g=t.rules.length-k∧i=.int .i64 k∧T6 w.heap.size w wr (a2f t++10::a0P (t.rules.take k)))
 case atStart=>exact⟨0,j4,rfl,rfl,hF3⟩
 case round=>
  obtain⟨k,hk,rfl,rfl,hF⟩:=hrel;clear hF3 b2;by_cases hk1:k<t.rules.length
  . obtain⟨r,hr⟩:∃r,t.rules[k]?=some r:=⟨_,l9 hk1⟩
    obtain⟨b,o,rfl,hR⟩:=hrd k r hr;have hkz:(k:Int)<(t.rules.length:Int):=j4;obtain⟨ca,cc2,hc1,hcl⟩:=hR.c1;have hbl:=hR.lt;have e0:=(hF.below.cell (p:=⟨b,o+k*6,none⟩) hbl).trans hR.c0;have e1:=(hF.below.cell (p:=⟨b,o+k*6+1,none⟩) hbl).trans hc1;have e2:=(hF.below.cell (p:=⟨b,o+k*6+2,none⟩) hbl).trans hR.c2;have e3:=(hF.below.cell (p:=⟨b,o+k*6+3,none⟩) hbl).trans hR.c3;have e4:=(hF.below.cell (p:=⟨b,o+k*6+4,none⟩) hbl).trans hR.c4;have e5:=(hF.below.cell (p:=⟨b,o+k*6+5,none⟩) hbl).trans hR.c5;have hwr:=hw r (D0 hr);have x3:=hwr.left;have x4:=hwr.right
    go_wp2
    have hFa:=(hF.alloc (rvB r ca cc2)).alloc (rwB r);have hv:((wr.alloc (rvB r ca cc2)).alloc (rwB r)).heap[wr.heap.size]?=some (rvB r ca cc2):=by rw[Go.Lib.alloc_old _ _ _ (by show wr.heap.size<(wr.heap.push _).size;rw[a9O];omega)];exact heap_alloc_new wr _
    have hrow:((wr.alloc (rvB r ca cc2)).alloc (rwB r)).heap[wr.heap.size+1]?=some (rwB r):=by have:=heap_alloc_new (wr.alloc (rvB r ca cc2)) (rwB r);rwa[show(wr.alloc (rvB r ca cc2)).heap.size=wr.heap.size+1 by show(wr.heap.push _).size=_;rw[a9O]]at this
    have hgN:=hF.size;generalize(wr.alloc (rvB r ca cc2)).alloc (rwB r)=wa at hFa hv hrow⊢;generalize wr.heap.size=gg at hv hrow hgN⊢;clear hF e0 e1 e2 e3 e4 e5;have hsl:(a2f t++10::a0P (t.rules.take k)).length≤300000000:=by have h1:=b0B (l:=t.rules.take k) fun x hx=>hw x (b2h hx);have h2:(t.rules.take k).length≤20:=F6;simp[a2f,a6j,a3N];omega
    obtain⟨s0,hs0⟩:∃s0,a2f t++10::a0P (t.rules.take k)=s0:=⟨_,rfl⟩
    rw[hs0]at hFa hsl
    go_loopg [41] 4 (fun g i wx=>∃j:Nat,j≤4∧g=4-j∧i=.int .i64 j∧T6 w.heap.size w wx (s0++a4X r j)∧wx.heap[gg]?=some (rvB r ca cc2)∧wx.heap[gg+1]?=some (rwB r))
    case atStart=>exact⟨0,j4,rfl,rfl,by simpa[a4X]using hFa,hv,hrow⟩
    case round=>
     obtain⟨j,hj,rfl,rfl,hFx,hvx,hrx⟩:=hrel;clear hFa hv hrow;by_cases hj4:j<4
     . have hjz:(j:Int)<4:=j4;have hcj:=d1N hrx hj4;have hnl:=b8T r j hj;have hns:=c5L (r:=r) hj4;obtain⟨x,hx⟩:=Am.Q8 ((Qs r).getD j 0);rw[hx]at hcj hns;have hx100:x<100:=by
        rw[←hx];have y1:=hwr.src;have y2:=hwr.dst
        match j,hj4 with
        |0,_=>exact y1
        |1,_=>exact y2
        |2,_=>exact x3
        |3,_=>exact x4
       have hdl:=a0Q x;have hg1:¬9223372036854775807<(dec x).length+1:=j4;clear hx
       go_wp2_with (first|(go_at_call 32;refine(b2W hx100 _).mono ?_;rintro e w' ⟨rfl,rfl⟩)|(go_at_call 31;refine(a8G hFx _ F6).mono ?_))
       rintro e wy ⟨rfl,hFy,hky⟩;have hvy:=hky _ _ hvx F6 (by intro c fz h;cases h);have hry:=hky _ _ hrx F6 (by intro c fz h;cases h)
       go_wp2
       go_roundg (4-(j+1))
       case measure=>omega
       case rel=>exact⟨j+1,j4,rfl,by go_num,by rw[hns,←a2o];exact hFy,hvy,hry⟩
     . obtain rfl:j=4:=j4;clear hrx hj;have hnl:=b8T r 4 j4;obtain⟨s1,hs1⟩:=Am.Q8 (s0++a4X r 4);have hsl1:s1.length≤300000100:=(by rw[←hs1];simp;omega);rw[hs1]at hFx;have v1:wr.cell? ⟨gg,1,none⟩=some (.slice ca r.cells.length cc2):=by rw[cell_of_row wr _ 1 _ _ _ hvx];rfl
       go_wp2
       have hd5:=hwr.A0;have hFs:T6 w.heap.size w wr (s1++P7 (r.cells.take 0)):=(by simpa[P7]using hFx);clear v1
       go_loopg [53] r.cells.length (fun g i wx=>∃j:Nat,j≤r.cells.length∧g=r.cells.length-j∧i=.int .i64 j∧T6 w.heap.size w wx (s1++P7 (r.cells.take j))∧wx.heap[gg]?=some (rvB r ca cc2))
       case atStart=>exact⟨0,j4,rfl,rfl,hFs,hvx⟩
       case round=>
        obtain⟨j,hj,rfl,rfl,hFx,hvx⟩:=hrel;clear hFs;have hcbl:=b1B (l:=r.cells.take j) fun c hc=>hwr.cell c (b2h hc);have htl:(r.cells.take j).length=j:=F6;by_cases hj4:j<r.cells.length
        . have hjz:(j:Int)<(r.cells.length:Int):=j4;obtain⟨x,hx⟩:∃x,r.cells[j]?=some x:=⟨_,l9 hj4⟩
          obtain⟨b',o',rfl,hb',hcx⟩:=hcl j x hx;have hx64:x<64:=hwr.cell x (D0 hx);have hcj:=(hFx.below.cell (p:=⟨b',o'+j,none⟩) hb').trans hcx;have hstep:P7 (r.cells.take (j+1))=P7 (r.cells.take j)++((if j=0 then []else [45])++a1s x):=by
           rw[J5,hx,show(some x).toList=[x]from rfl,c3U];by_cases h0:j=0
           . simp[h0]
           . rw[if_neg h0,if_neg (by intro e;rw[e]at htl;simp at htl;omega)]
          have hdx:=a9X hx64;by_cases h0:j=0
          . subst h0;rw[if_pos rfl,a4H]at hstep;rw[a4d]at hcj
            go_wp2_with (go_at_call 34;refine(b9M hFx hx64).mono ?_)
            rintro e wd ⟨rfl,hFd,hkd⟩;have hvd:=hkd _ _ hvx F6 (by intro c fz h;cases h)
            go_wp2_with (go_at_call 31;refine(a8G hFd _ (by simp only[Z9,S9,a6U];omega)).mono ?_)
            rintro e wy ⟨rfl,hFy,hky⟩;have hvy:=hky _ _ hvd F6 (by intro c fz h;cases h)
            go_wp2
            go_roundg (r.cells.length-1)
            case measure=>omega
            case rel=>exact⟨1,j4,rfl,by go_num,by rw[hstep,←a2o];exact hFy,hvy⟩
          . rw[if_neg h0]at hstep;have hjp:(0:Int)<j:=j4
            go_wp2_with (go_at_call 33;refine(wb45 hFx F6).mono ?_)
            rintro e wb ⟨rfl,hFb,hkb⟩;have hvb:=hkb _ _ hvx F6 (by intro c fz h;cases h)
            go_wp2_with (go_at_call 34;refine(b9M hFb hx64).mono ?_)
            rintro e wd ⟨rfl,hFd,hkd⟩;have hvd:=hkd _ _ hvb F6 (by intro c fz h;cases h)
            go_wp2_with (go_at_call 31;refine(a8G hFd _ F6).mono ?_)
            rintro e wy ⟨rfl,hFy,hky⟩;have hvy:=hky _ _ hvd F6 (by intro c fz h;cases h)
            go_wp2
            go_roundg (r.cells.length-(j+1))
            case measure=>omega
            case rel=>exact⟨j+1,j4,rfl,by go_num,by rw[hstep];simpa using hFy,hvy⟩
        . obtain rfl:j=r.cells.length:=j4;have v0:wr.cell? ⟨gg,0,none⟩=some (.string (BS r.print)):=(by rw[cell_of_row wr _ 0 _ _ _ hvx];rfl);have hhl:=b4n r.print;have hd8:=hwr.B7;rw[K8]at hFx hcbl;have q1:¬9223372036854775807<1+(a0O r.print).length:=j4
          go_wp2_with (go_at_call 35;refine(d0W hFx hwr.B7).mono ?_)
          rintro e wd ⟨rfl,hFd,hkd⟩
          go_wp2_with (go_at_call 31;refine(a8G hFd _ F6).mono ?_)
          rintro e wy ⟨rfl,hFy,hky⟩;have hend:a2f t++10::a0P (t.rules.take (k+1))=s1++P7 r.cells++32::(a0O r.print++[10]):=by rw[J5,hr,←hs1,←hs0];simp[a0P,a3B,a4X]
          go_wp2
          go_roundg (t.rules.length-(k+1))
          case measure=>omega
          case rel=>exact⟨k+1,j4,rfl,by go_num,by rw[hend];exact hFy⟩
  . obtain rfl:k=t.rules.length:=j4;rw[K8]at hF
    go_wp2_with (go_at_call 36;refine(c6P hF k8).mono ?_)
    rintro e wz ⟨rfl,hb⟩
    go_wp2
    go_ret
    exact⟨rfl,hb⟩
section
variable{Z:Nat→Prop}{w:World}{n:Nat}{v:Value}
theorem c7w{s:ByteArray}(h:Am.J1 Z w n v (.str s)):v=.string s:=by cases n<;>exact h
theorem a8v{k:IntKind}{x:Int}(h:Am.J1 Z w n v (.int k x)):v=.int k x:=by cases n<;>exact h
theorem c0s{es:List Am.PV}(h:Am.J1 Z w n v (.slc es)):∃m,n=m+1∧∃a c sz,v=.slice a es.length c∧es.length≤c∧c≤maxLen∧(a=none→c=0)∧
      ∀(i:Nat) e,es[i]?=some e→(Am.l6 e).length=sz∧∃b o,a=some ⟨b,o,none⟩∧Z b∧∀(j:Nat) c,(Am.l6 e)[j]?=some c→Am.one c=true∧∃u,w.cell? ⟨b,o+(i*sz+j),none⟩=some u∧Am.J1 Z w m u c:=by
 cases n with
 |zero=>exact h.elim
 |succ n=>exact⟨n,rfl,h⟩
theorem c6F(t:k7)(hm:t.modes<100)(F:t.accept<100)(hw:∀r∈t.rules,WrR r)(G:t.rules.length≤20):Am.F0 8 [0] [TP t] (St (a8I t)):=by
 refine⟨by kernel_rfl,fun w Z v f H=>?_⟩;obtain⟨I,r1⟩:=H;obtain⟨u,y,J⟩:=r1 0 _ rfl;obtain⟨us,rfl,j⟩:=J;obtain⟨f1,f2⟩:=j;obtain⟨v0,z,l⟩:=f2 0 _ rfl;obtain⟨v1,A,m⟩:=f2 1 _ rfl;obtain⟨v2,B,p⟩:=f2 2 _ rfl;have l:v0=.int .i64 t.modes:=l;have m:v1=.int .u8 t.accept:=m;obtain⟨V,p⟩:=p;obtain⟨n,rfl,a,C,sz,rfl,W,_,_,K⟩:=c0s p;subst l;subst m;have j:us= #[.int .i64 t.modes,.int .u8 t.accept,.slice a t.rules.length C]:=by
  have hs:us.size=3:=f1;apply Array.ext (by rw[hs];rfl);intro i h1 q
  match i,q with
  |0,_=>rw[a5n h1]at z;simpa using z
  |1,_=>rw[a5n h1]at A;simpa using A
  |2,_=>rw[a5n h1]at B;simpa using B
 have L:v= #[.agg us]:=by
  have hs:v.size=1:=I;apply Array.ext (by rw[hs];rfl);intro i h1 q
  match i,q with
  |0,_=>rw[a5n h1]at y;simpa using y
 subst j;subst L;refine(c2I t hm F hw G w a C ?_).mono ?_
 . intro i r hr;obtain⟨h1,b,o,rfl,M,d⟩:=K i (RP r) (by simp[hr]);have h1:6=sz:=(by simpa[Am.l6]using h1);subst h1;have D:∀b,Z b→b<w.heap.size:=fun b hb=>(f b hb).lt;obtain⟨_,u0,c0,z0⟩:=d 0 _ rfl;obtain⟨_,X,c1,N⟩:=d 1 _ rfl;obtain⟨_,Y,c2,z2⟩:=d 2 _ rfl;obtain⟨_,aa,c3,z3⟩:=d 3 _ rfl;obtain⟨_,ab,c4,z4⟩:=d 4 _ rfl;obtain⟨_,ac,c5,z5⟩:=d 5 _ rfl;have z0:=c7w z0;have z2:=a8v z2;have z3:=a8v z3;have z4:=a8v z4;have z5:=a8v z5;subst z0;subst z2;subst z3;subst z4;subst z5;obtain⟨ad,rfl,O,P,Q,rfl,_,_,_,R⟩:=c0s N;refine⟨b,o,rfl,D b M,c0,⟨O,P,by rw[O0]at c1;exact c1,fun k x S=>?_⟩,c2,c3,c4,c5⟩;obtain⟨h1,b',o',rfl,T,c⟩:=R k (UN x) (by simp[S]);have h1:1=Q:=(by simpa[Am.l6]using h1);subst h1;obtain⟨_,u,U,s⟩:=c 0 _ rfl;have s:=a8v s;subst s;exact⟨b',o',rfl,D b' T,by simpa using U⟩
 . rintro e w' ⟨rfl,hb⟩;refine⟨_,Am.G0 Z,rfl,⟨hb,fun k o c _=>?_⟩,b5i hb.size (fun b E=>(f b E).eq (hb.block b (f b E).lt)) ?_,rfl⟩
   . rcases a4N k w.heap.size with h|h
     . rw[hb.block k h];exact c
     . rw[Array.getElem?_eq_none h]at c;cases c
   . intro k g o c
     match k,c with
     |0,c=>simp[Am.X2,Am.B4,Am.U2,Am.l6,Am.I3]at c;exact c.2.symm
     |k+1,c=>simp[Am.X2,Am.B4,Am.U2,Am.l6,Am.I3]at c
end
set_option maxHeartbeats 16000000
theorem c3I{t:k7}(a:s7 t)(hs:Sm t):t.modes<100∧t.accept<100∧∀r∈t.rules,WrR r:=by have h1:=a.a8;have b:=hs.m2;have f:2^t.modes≤2^2:=Nat.pow_le_pow_right j4 b;refine⟨j4,j4,fun r hr=>?_⟩;have h:=a3d (a.sound r hr);have a1:=h.p4;have a2:=h.c1;have a3:=h.c4;have a4:=h.left;have a5:=h.right;have a6:=h.src;have a7:=h.dst;exact⟨j4,j4,j4,j4,fun e=>by simp[e]at a2,fun c d=>by have:=h.cell c d;omega,j4,j4⟩
theorem c0i{t:k7}(b:s7 t)(q:List Nat):∀c∈C5 t q,c<64:=by
 intro c a;obtain⟨k,_,a⟩:=a3b.1 a;rw[B0]at a;cases hr:t.rules[k]? with
 |none=>rw[hr]at a;cases a
 |some r=>
  rw[hr]at a;have:=(a3d (b.sound r (D0 hr))).cell c a;omega
theorem b8R{t:k7}(a:s7 t):∀(q:List Nat) (s s':State),E5 t s q=some s'→q.length≤(C5 t q).length
 | [],_,_,_=>by simp
 |k::q,s,s',h=>by obtain⟨s1,b,c⟩:=X1.1 (show(T.step t s k).bind (fun s'=>E5 t s' q)=some s' from h);have d:=b8R a q s1 s' c;have h1:=a7x a b;unfold A0 at h1;simp only[C5,a2Z,Z9,S9]at d⊢;omega
theorem d0G(x:RwT)(z:∀w∈x.more,w.p.length≤9223372036854775807∧w.c.length≤9223372036854775807)(A:x.more.length≤9223372036854775807)(l:List Nat)(C:l.length≤9223372036854775807)(D:∀c∈l,c<256):
 F0 3 [0] [RwP x,CL l] (B true):=by
 obtain⟨Z,⟨t,c,rfl,E,a,d,aa⟩,F⟩:=c8F x z A;obtain⟨p,b,G,ab,H⟩:=c2n t a l C D;obtain⟨w1,w2,w3⟩:=c3I a d;have J:=c6F t w1 w2 w3 j4;have K:=d2e t a w1 w2 w3 j4;have L:=d1n t j4 fun r hr=>(w3 r hr).A0;have ac:(∀r∈t.rules,D9 (RP r)=true)=True:=eq_true fun r _=>rfl;refine E1 c3 13 (by simp[X3]) fun Q i ad=>?_;simp[X3];refine l8 c9H ?_;simp;refine l8 F ?_;rcases E with rfl|⟨es,rfl,j,M⟩
 case' inl=>simp
 case' inr=>
  have hlen:es.length=t.rules.length:=by rw[←O0 (f:=B6),j,O0]
  have N:(∀e∈es,D9 e=true)=True:=eq_true M;simp[N,j,hlen]
 all_goals
  refine l8 H ?_;simp;refine l8 J ?_;simp;refine l8 K ?_;simp;refine l8 L ?_;cases b with
  |false=>
   simp;refine i _ _ ?_;simp[X3]
  |true=>
   have hp:=G rfl;have ae:=hp.len;obtain⟨st,k,g⟩:=hp.run;have h:a3s t (J8 t p) p:=⟨⟨st,k,g⟩,rfl⟩
   have af:=b4r a p;have O:=b3o a p;have m:=c7B a k;obtain⟨s,hs⟩:=s8 (J8 t p);rw[←hs]at h O m;obtain⟨rw1,P,n⟩:=b8r t a s j4 m;obtain⟨q,rfl,o,R⟩:=P.ok a h;have ag:=R p h;obtain⟨ah,S,_⟩:=o.run;have ai:=b8R a q _ _ S;have T:=c7E (C5 t q) q j4 j4;have U:=c2t (C5 t q) j4 (c0i a q);have V:=c4O c9v (C5 t q) j4 (c0i a q);have W:=d0q (C5 t q) j4;have X:=b4K a d.m2;have Y:((C5 t q).length+1)*((j8 t).length*t.rules.length+5*t.rules.length)<4000000000000:=by have h1:(j8 t).length*t.rules.length≤768*10:=a8a X d.r10;have aj:=d.r10;have ak:((C5 t q).length+1)*((j8 t).length*t.rules.length+5*t.rules.length)≤300000001*7730:=a8a j4 j4;omega
   obtain⟨r2,g,u⟩:=b8W t a (C5 t q) j4 Y;obtain⟨y,rfl⟩:∃y,r2=.tup [St y,IN (C5 t q).length,I 0]:=by
    rcases g with⟨y,v,rfl⟩|⟨v,_⟩
    . exact⟨y,rfl⟩
    . exact absurd ⟨_,o.lng⟩ v
   rw[←hs];simp;refine l8 n ?_;simp;refine l8 n ?_;simp;refine l8 T ?_;simp;refine l8 U ?_;simp;refine l8 V ?_;simp;refine l8 u ?_;simp;refine l8 u ?_;simp;refine l8 W ?_;simp;refine i _ _ ?_;simp[X3]
end Go.Proofs.YtmhbdebagfhimaaGreatDoor.T
namespace Go.Proofs.YtmhbdebagfhimaaGreatDoor.notationsAgree
open Go.ChangeShapes Go.WideShapes Go.ChangeAt Go.RowKit Go.Proofs.YtmhbdebagfhimaaGreatDoor.Am
theorem own:ownKnob Tryz.prog.godebug=none:=by kernel_rfl
theorem laidOut:laidOutB Tryz.prog=true:=by kernel_rfl
def a6n:Sh:=.agg (.fd (.slc (.int .u8)) (.fd (.slc (.int .u8)) (.fd (.int .u8) (.fd (.int .u8) (.fd (.agg (.fd (.int .u8) (.fd (.int .u8) .en))) .en)))))
def shape:Sh:=(.fd (.agg (.fd (.int .u8) (.fd (.int .u8) (.fd (.slc a6n) .en)))) (.fd (.slc (.int .u8)) .en))
def u8(n:Int):UInt8:=UInt8.ofNat n.toNat
theorem c0o{n:Int}(h:(Lit.int .u8 n).wf=true):((u8 n).toNat:Int)=n:=by have:=bounds_u8 h;unfold u8;rw[T.ofNat_toNat j4];omega
theorem b3a{l:List Int}(h:∀x∈l,(Lit.int .u8 x).wf=true):(l.map u8).map T.UB=l.map (PV.int .u8):=by rw[a2D];exact O1 fun x a=>by show PV.int .u8 ((u8 x).toNat:Int)=_;rw[c0o (h x a)]
def rw1(x:a6n.T):T.RW:=⟨List.map u8 (show List Int from x.1),List.map u8 (show List Int from x.2.1),u8 x.2.2.1,u8 x.2.2.2.1,u8 x.2.2.2.2.1.1,u8 x.2.2.2.2.1.2.1⟩
theorem a7I{n:Int}(h:(Lit.int .u8 n).wf=true):T.UB (u8 n)=.int .u8 n:=by show PV.int .u8 ((u8 n).toNat:Int)=_;rw[c0o h]
theorem c6J(x:a6n.T)(h:a6n.ok x):T.RWP (rw1 x)=a6n.pv x:=by obtain⟨p,c,l,r,⟨w0,w1,_⟩,_⟩:=x;obtain⟨h1,a,b,d,⟨e,f,_⟩,_⟩:=h;show PV.agg [.slc ((List.map u8 p).map T.UB),.slc ((List.map u8 c).map T.UB),T.UB (u8 l),T.UB (u8 r),T.UB (u8 w0),T.UB (u8 w1)]=.agg [.slc (List.map (PV.int .u8) p),.slc (List.map (PV.int .u8) c),.int .u8 l,.int .u8 r,.int .u8 w0,.int .u8 w1];rw[b3a h1.2,b3a a.2,a7I b,a7I d,a7I e,a7I f]
theorem c2x{l:List Int}(h:∀x∈l,(Lit.int .u8 x).wf=true):T.CL ((List.map u8 l).map UInt8.toNat)=.slc (List.map (PV.int .u8) l):=by show PV.slc (((List.map u8 l).map UInt8.toNat).map T.UN)=_;rw[a2D,←b3a h];rfl
theorem all_true:∀y:shape.T,shape.ok y→Am.Fn Tryz.prog 3 [0] (shape.pvs y) (.bool true):=by
 rintro⟨⟨a,b,m,_⟩,l,_⟩ ⟨⟨h1,f,d,_⟩,e,_⟩;have key:=T.d0G ⟨u8 a,u8 b,List.map rw1 m⟩ (fun w hw=>by
  obtain⟨y,g,rfl⟩:=G7.1 hw;obtain⟨g1,g2,_⟩:=d.2 y g;exact⟨by show(List.map u8 _).length≤_;rw[O0];exact g1.1,by show(List.map u8 _).length≤_;rw[O0];exact g2.1⟩) (by
  show(List.map rw1 m).length≤_;rw[O0];exact d.1) ((List.map u8 l).map UInt8.toNat) (by rw[O0,O0];exact e.1) (fun c h=>by
  obtain⟨y,_,rfl⟩:=G7.1 h;exact y.toNat_lt)
 have i:(List.map rw1 m).map T.RWP=List.map (fun x=>a6n.pv x) m:=by rw[a2D];exact O1 fun x j=>c6J x (d.2 x j)
 have k:T.RwP ⟨u8 a,u8 b,List.map rw1 m⟩=.agg [.int .u8 a,.int .u8 b,.slc (List.map (fun x=>a6n.pv x) m)]:=by show PV.agg [T.UB (u8 a),T.UB (u8 b),.slc ((List.map rw1 m).map T.RWP)]=_;rw[i,a7I h1,a7I f]
 rw[c2x e.2,k]at key;exact key
abbrev b0h:List (String×DataW Unit):=Rows.topNotationsAgreeRow.laid
set_option maxRecDepth 100000 in
theorem c3C(os:Os)(args:Array Value):laidMetH Tryz.prog b0h ((World.doorLaid Tryz.prog 4000 os).forCall (fun _ _=>0) ⟨#[],args,[]⟩).memory:=
 laidMetH_of_parts3 (fuel:=8) (laidMet_of_run' 8 (by kernel_rfl) (by kernel_rfl)) (by kernel_rfl) (by kernel_rfl)
set_option maxRecDepth 100000 in
theorem lifted(os:Os)(started:os.Started)(H:Type)(enc:TypeId×Value→H):
 ReturnsInHanded {} Tryz.checked os 3 .any (fun w args=>(Rows.topNotationsAgreeSpec.pre enc Tryz.prog Tryz.f3 [] false w args∧laidMetH Tryz.prog b0h w)∧sizedMet enc Tryz.prog Tryz.f3 (OpenSpec.ofChange Rows.topNotationsAgreeSpec) false w args)
  (Rows.topNotationsAgreeSpec.post enc Tryz.prog Tryz.f3 false true false false):=by
 refine returnsInHanded_of_change_and (C:=Tryz.checked) (X:=fun w _=>laidMetH Tryz.prog b0h w) (fun _ _ _ f h=>h.of_heap f) own started (by kernel_rfl) Tryz.func3
  (ChangeSpec.witness_shaped (enc:=enc) (C:=Tryz.checked) (os:=os) (X:=fun w _=>laidMetH Tryz.prog b0h w) false (World.doorLaid Tryz.prog 4000 os) #[.agg #[.int .u8 0,.int .u8 0,.slice none 0 0],.slice none 0 0] 8 rfl (World.shaped_of_RefB (by kernel_rfl) (by kernel_rfl)) (by kernel_rfl) (by kernel_rfl) (by kernel_rfl) (c3C os _)) ?_
 intro W base args d gs before n k _ _ _ _;have o:=k;obtain⟨p,q,g,r,rfl,_,_⟩:=k;obtain⟨rfl,rfl⟩:=trodVars_none r;have s:shL Tryz.prog 8 Tryz.f3.params.toList shape=true:=by kernel_rfl
 have u:Tryz.f3.params.toList.all (fun t=>Tryz.prog.readableRec t&&decide (t<Tryz.prog.types.size))=true:=by kernel_rfl
 obtain⟨y,x,z,E⟩:=b6O (P:=Tryz.prog) (w:=W) (base:=base) s (fun j t v a b=>n j t v (by simpa using a) (by simpa using b)) g;refine((all_true y x).2 W (Zw W) args (fun _ h=>h) ⟨by simpa using z,fun i c F=>?_⟩).mono fun e W' f=>?_
 . grind
 . obtain⟨v,G,rfl,l,_,m⟩:=f;have A:v=.bool true:=by
    unfold D at m;simpa[T4,a2i,M5,j9]using m
   subst A;have B:=b8U g;have hs:Rows.topNotationsAgreeSpec.fn H (d++[])={results:=[.lit (.bool true)],args:=d}:=by
    match d,B with
    | [a,b],_=>rfl
   refine⟨_,rfl,d,[],_,[],p,[],o,?_,?_,?_,l.bl.frame _,fun h=>by cases h⟩
   . rw[hs];exact trodAll_mk1 (shut_bool Tryz.underlying4 true)
   . rw[hs];exact c0x laidOut l.bl u g
   . rw[hs];rfl
set_option maxRecDepth 100000 in
theorem over:Rows.topNotationsAgreeRow.holds Tryz.pinned (OpenSpec.ofChange Rows.topNotationsAgreeSpec):=
 OpenClaim.holds_of_wide 3 Tryz.f3 rfl rfl rfl rfl rfl rfl rfl ⟨rfl,rfl,rfl,rfl,rfl⟩ rfl rfl rfl rfl rfl (by kernel_rfl) Tryz.func3 (by kernel_rfl)
  (of_decide_eq_true (by kernel_rfl)) (by unfold Func.isWrapper;first|(rw[if_pos (by decide+kernel)];kernel_rfl)|(rw[if_neg (by decide+kernel)];exact⟨rfl,rfl⟩))
  (fun os started H enc _=>lifted os started H enc)
theorem proved:Rows.TopNotationsAgreeCardSaid:=
 Claim7.holds_tied_plain_at .later [] [.data,.data,.data] true Rows.topNotationsAgreeCard.stood.harness false
  over (fun _ h=>by cases h) (by kernel_rfl) (fun _ h=>by cases h) topNotationsAgree_row_tie rfl ⟨rfl,rfl⟩ (by kernel_rfl) rfl
  (fun f fn a b=>by
   obtain rfl:f=3:=U4 ((show Tryz.prog.funcNamed Rows.topNotationsAgreeRow.func=some 3 by kernel_rfl).symm.trans a)|>.symm;obtain rfl:fn=Tryz.f3:=(U4 (Tryz.func3.symm.trans b)).symm;exact⟨by kernel_rfl,fun j t c=>by have d:Tryz.f3.params.all (fun t=>!Tryz.prog.wantsStandIn t)=true:=(by kernel_rfl);have:=Array.all_eq_true_iff_forall_mem.1 d t (Array.mem_of_getElem? c);have e:Tryz.prog.wantsStandIn t=false:=(by simpa using this);exact e⟩)
  (by kernel_rfl)
end Go.Proofs.YtmhbdebagfhimaaGreatDoor.notationsAgree
