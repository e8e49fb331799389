/-
  The plain machine, that it is sound, and walks: part 7 (joined and shortened by a program of the prover's).
-/
import Derived.Test.YtbhfgadikmfjdaaGreatR6
import Derived.Shelf.Sort.Plain
import Derived.Shelf.Slices.In.SortNone
import Derived.KernelRfl
import Derived.Test.YtbhfgadikmfjdaaGreatRows
import Derived.OpenShut
set_option linter.unusedSimpArgs false
set_option linter.unusedVariables false
set_option linter.unusedSectionVars false
namespace Go.Proofs.YtbhfgadikmfjdaaGreat.T
open Go.Proofs.YtbhfgadikmfjdaaGreat.Am
open Go.Proofs Go.Shelf Go.Sort
def c5i:Go.Shelf.Ren where
 f:=fun x=>match x with|189=>75|125=>107|257=>106|128=>133|129=>134|294=>124|295=>125|296=>126|297=>127|298=>128|299=>129|216=>130|300=>131|301=>132|328=>137|329=>138|330=>139|331=>140|332=>141|215=>142|343=>144|n=>n
 t:=fun x=>match x with|28=>35|3=>3|46=>232|0=>0|51=>264|53=>266|4=>4|183=>257|182=>256|131=>132|5=>5|9=>9|218=>269|222=>273|228=>276|229=>277|n=>n
 g:=fun x=>x
theorem b7z:Lays.n189 Tryz.prog c5i where
 mixed:=by kernel_rfl
 f125:=Tryz.func107.trans (by kernel_rfl)
 f128:=Tryz.func133.trans (by kernel_rfl)
 f129:=Tryz.func134.trans (by kernel_rfl)
 f189:=Tryz.func75.trans (by kernel_rfl)
 f215:=Tryz.func142.trans (by kernel_rfl)
 f216:=Tryz.func130.trans (by kernel_rfl)
 f257:=Tryz.func106.trans (by kernel_rfl)
 f294:=Tryz.func124.trans (by kernel_rfl)
 f295:=Tryz.func125.trans (by kernel_rfl)
 f296:=Tryz.func126.trans (by kernel_rfl)
 f297:=Tryz.func127.trans (by kernel_rfl)
 f298:=Tryz.func128.trans (by kernel_rfl)
 f299:=Tryz.func129.trans (by kernel_rfl)
 f300:=Tryz.func131.trans (by kernel_rfl)
 f301:=Tryz.func132.trans (by kernel_rfl)
 f328:=Tryz.func137.trans (by kernel_rfl)
 f329:=Tryz.func138.trans (by kernel_rfl)
 f330:=Tryz.func139.trans (by kernel_rfl)
 f331:=Tryz.func140.trans (by kernel_rfl)
 f332:=Tryz.func141.trans (by kernel_rfl)
 f343:=Tryz.func144.trans (by kernel_rfl)
 t0:=Tryz.underlying0
 a0:=Tryz.isAgg0
 z0:=Tryz.sizeOf0
 v0:=Tryz.zeroValue0
 t3:=Tryz.underlying3
 a3:=Tryz.isAgg3
 z3:=Tryz.sizeOf3
 v3:=Tryz.zeroValue3
 t4:=Tryz.underlying4
 a4:=Tryz.isAgg4
 z4:=Tryz.sizeOf4
 v4:=Tryz.zeroValue4
 t5:=Tryz.underlying5
 a5:=Tryz.isAgg5
 z5:=Tryz.sizeOf5
 v5:=Tryz.zeroValue5
 t9:=Tryz.underlying9
 a9:=Tryz.isAgg9
 z9:=Tryz.sizeOf9
 v9:=Tryz.zeroValue9
 t28:=Tryz.underlying35
 a28:=Tryz.isAgg35
 z28:=Tryz.sizeOf35
 v28:=Tryz.zeroValue35
 t46:=Tryz.underlying232
 a46:=Tryz.isAgg232
 z46:=Tryz.sizeOf232
 v46:=Tryz.zeroValue232
 t51:=Tryz.underlying264
 a51:=Tryz.isAgg264
 z51:=Tryz.sizeOf264
 v51:=Tryz.zeroValue264
 t53:=Tryz.underlying266
 a53:=Tryz.isAgg266
 z53:=Tryz.sizeOf266
 v53:=Tryz.zeroValue266
 t131:=Tryz.underlying132
 a131:=Tryz.isAgg132
 z131:=Tryz.sizeOf132
 v131:=Tryz.zeroValue132
 t182:=Tryz.underlying256
 a182:=Tryz.isAgg256
 z182:=Tryz.sizeOf256
 v182:=Tryz.zeroValue256
 t183:=Tryz.underlying257
 a183:=Tryz.isAgg257
 z183:=Tryz.sizeOf257
 v183:=Tryz.zeroValue257
 t218:=Tryz.underlying269
 a218:=Tryz.isAgg269
 z218:=Tryz.sizeOf269
 v218:=Tryz.zeroValue269
 t222:=Tryz.underlying273
 a222:=Tryz.isAgg273
 z222:=Tryz.sizeOf273
 v222:=Tryz.zeroValue273
 t228:=Tryz.underlying276
 a228:=Tryz.isAgg276
 z228:=Tryz.sizeOf276
 v228:=Tryz.zeroValue276
 t229:=Tryz.underlying277
 a229:=Tryz.isAgg277
 z229:=Tryz.sizeOf277
 v229:=Tryz.zeroValue277
theorem c9A(S0 off cap:Nat)(zs:List Int)(w:World)(a:Go.Sort.Holds (Value.int .i64) w S0 off zs.toArray)(b:S0<w.heap.size)(c:zs.length<4611686018427387904):
 Calls Tryz.prog 75 #[.slice (some ⟨S0,off,none⟩) zs.length cap] w fun e w'=>
  e=.returned (.tuple #[])∧∃n os,w'=Go.Sort.grow (Go.Sort.putRow (Value.int .i64) (Go.Sort.ahead w n) S0 off (zs.mergeSort fun x y=>decide (x≤y)).toArray) os:=Any.slices_Sort_int b7z S0 off cap zs w a b c
theorem c3q(p:Option Addr)(cap:Nat)(w:World):Calls Tryz.prog 75 #[.slice p 0 cap] w fun e w'=>e=.returned (.tuple #[])∧w'=w:=Any.slices_Sort_int_none b7z p cap w
theorem b9f:a1U Tryz.prog 75=true:=by kernel_rfl
theorem c3C:b8q:=by
 intro h;refine⟨75,[],[],rfl,b9f,rfl,fun B Z0 G w b d f g h1 j k=>?_⟩;obtain⟨l,_⟩:=h1;obtain⟨q,r2⟩:=j;obtain⟨m,_⟩:=k;obtain⟨v,r,hr⟩:=r2 0 .nils rfl;have n:b= #[]:=b4Q.1 l;have a:f= #[]:=b4Q.1 m;have o:d= #[v]:=by grind
 have p:v=.slice none 0 0:=hr;subst n;subst a;subst o;subst p;refine(c3q none 0 w).mono ?_;rintro e w' ⟨rfl,rfl⟩;exact⟨_,G,rfl,g,Ext.refl,⟨#[],rfl,rfl,fun i c a=>by simp at a⟩,Bl.refl _ _⟩
theorem c3o{w:World}{β n:Nat}{zs:Array Int}{os:Array Obj}{b:Nat}(hb:b<w.heap.size)(a:b≠β):(Go.Sort.grow (Go.Sort.putRow (Value.int .i64) (Go.Sort.ahead w n) β 0 zs) os).heap[b]?=w.heap[b]?:=by
 have hs:b<(Go.Sort.putRow (Value.int .i64) (Go.Sort.ahead w n) β 0 zs).heap.size:=by rw[Go.Sort.size_putRow];exact hb
 show((Go.Sort.putRow (Value.int .i64) (Go.Sort.ahead w n) β 0 zs).heap++os)[b]?=_;rw[a2Y hs];show(w.heap.modify β _)[b]?=_
 grind
theorem c8m{w:World}{β n:Nat}{zs:Array Int}{os:Array Obj}{us:Array Value}{T:TypeId}(hb:w.heap[β]?=some (.cells us T (0,0))):(Go.Sort.grow (Go.Sort.putRow (Value.int .i64) (Go.Sort.ahead w n) β 0 zs) os).heap[β]?=some (.cells (Go.Sort.putCells (Value.int .i64) 0 zs us) T (0,0)):=by
 have a:β<w.heap.size:=(a2I.1 hb).1;have hs:β<(Go.Sort.putRow (Value.int .i64) (Go.Sort.ahead w n) β 0 zs).heap.size:=by rw[Go.Sort.size_putRow];exact a
 show((Go.Sort.putRow (Value.int .i64) (Go.Sort.ahead w n) β 0 zs).heap++os)[β]?=_;rw[a2Y hs];show(w.heap.modify β _)[β]?=_;rw[b4L,if_pos rfl,hb];rfl
theorem c2W(l:List Nat):(l.map fun x:Nat=>(x:Int)).mergeSort (fun x y=>decide (x≤y))=(R1 l).map fun x:Nat=>(x:Int):=by unfold R1;rw[List.map_mergeSort];intro a _ b _;simp
theorem c6S:b5W:=by
 intro k g ver l h D aB aC;refine⟨75,[],[],rfl,b9f,rfl,fun B Z0 G w V X Y d h1 z Z=>?_⟩;obtain⟨aa,_⟩:=h1;obtain⟨aD,r2⟩:=z;obtain⟨ab,_⟩:=Z;obtain⟨v,aE,hr⟩:=r2 0 _ rfl;have ac:V= #[]:=b4Q.1 aa;have s:Y= #[]:=b4Q.1 ab;have E:X= #[v]:=by grind
 subst ac;subst s;subst E;obtain⟨a,c,ad,aF,aG,_,gn,ob,K,_,A⟩:=hr;rw[D]at K;obtain⟨rfl,rfl⟩:g=gn∧_=ob:=by simpa using K
 obtain⟨_,A⟩:=A rfl _ _ _ _ rfl;obtain⟨_,A,aH⟩:=A l5;have ae:=d.ob k g _ D;obtain⟨_,af,ag,ah,aI⟩:=ae;have r:G.R (root k):=by grind
 obtain⟨f,E,aJ,aK,aL⟩:=A r;obtain⟨us,T,F,ai,aj⟩:=ah r;have ak:f=0:=i9;subst ak;subst E;subst ad;have L:∀y,G.R (k,y)→¬G.Z (G.β (k,y)):=d.nz k g _ D rfl;have al:=d.lv _ r;have am:G.β (root k)<w.heap.size:=al.2.lt;have an:∀i,(hi:i<l.length)→us[i]?=some (Value.int .i64 (l[i]:Int)):=fun i hi=>by obtain⟨u,M,ao⟩:=(aj i (IN l[i]) (by simp[hi])).2 0 (IN l[i]) rfl;have:u=Value.int .i64 (l[i]:Int):=ao.2;rw[this]at M;simpa using M
 have ap:Go.Sort.Holds (Value.int .i64) w (G.β (root k)) 0 (l.map fun x:Nat=>(x:Int)).toArray:=fun j hj=>by
  have aM:j<l.length:=by simpa using hj
  constructor
  . unfold World.cell?
    grind
  . unfold World.frozen?;rw[F];simp
 have N:=c9A (G.β (root k)) 0 c (l.map fun x:Nat=>(x:Int)) w ap am I2;rw[N5]at N;refine N.mono ?_;rintro e w' ⟨rfl,n,os,rfl⟩;rw[c2W];obtain⟨zs,H⟩:∃zs,zs=((R1 l).map fun x:Nat=>(x:Int)).toArray:=⟨_,rfl⟩
 have aN:zs.size=l.length:=by rw[H];simp[a9O]
 rw[←H];obtain⟨W,t⟩:=p7 (Go.Sort.grow (Go.Sort.putRow (Value.int .i64) (Go.Sort.ahead w n) (G.β (root k)) 0 zs) os);have C:∀b,b<w.heap.size→b≠G.β (root k)→W.heap[b]?=w.heap[b]?:=fun b h1 z=>by rw[t];exact c3o h1 z
 have O:W.heap[G.β (root k)]?=some (.cells (Go.Sort.putCells (Value.int .i64) 0 zs us) T (0,0)):=by rw[t];exact c8m F
 have P:w.heap.size≤W.heap.size:=by grind
 have I:Bl B w W:=by refine⟨⟨by rw[t];rfl,by rw[t];rfl,by rw[t];rfl,P,fun b hb=>C b i9 i9⟩,fun b o h1 z=>?_⟩;have I:=(a2I.1 h1).1;rw[C b I (fun e=>by subst e;rw[F]at h1;cases h1;simp[isD]at z)];exact h1
 rw[←t];have aq:∀b,G.Z b→b≠G.β (root k):=fun b hb e=>L none r (e▸hb);have Q:∀b,G.Z b→W.heap[b]?=w.heap[b]?:=fun b hb=>C b (d.zb b hb).lt (aq b hb);have R:k<h.length:=by grind
 have ar:p8 h [(k,g,Ob.arr 1 (ver+1) false ((R1 l).map IN))]=h.set k (g,Ob.arr 1 (ver+1) false ((R1 l).map IN)):=rfl;rw[ar];have S:Ext G h w G (h.set k (g,Ob.arr 1 (ver+1) false ((R1 l).map IN))) W:=by
  refine⟨fun _ x=>x,Q,fun p gn ob e=>?_⟩;by_cases q:p=k
  . subst q;rw[D]at e;cases e;refine⟨g,_,F8 R,m9 _,fun _=>⟨fun sz ver' aO es' e=>?_,?_,?_⟩⟩
    . cases e;exact⟨ver,false,_,rfl,by simp[a9O],i9,fun _=>C9.refl _ _,fun e=>i9⟩
    all_goals grind
  . exact⟨gn,ob,by rw[F7 (Ne.symm q)];exact e,m9 _,fun _=>L0.refl p ob (C9.refl _ _) fun _ _=>C9.refl _ _⟩
 have au:∀p y,p≠k→G.R (p,y)→G.β (p,y)≠G.β (root k):=fun p y q m e=>q (congrArg Prod.fst (d.inj _ _ m r e));refine⟨_,G,rfl,?_,S,⟨#[],rfl,rfl,fun i c s=>by simp at s⟩,I⟩;refine d.update k g _ R S (fun p y q=>.inl (C9.refl _ _)) (fun p y q m=>C _ (d.lv _ m).2.lt (au p y q m)) P (fun b hb=>(d.zb b hb).eq (Q b hb)) (fun b hb=>.inl hb) (fun _ _ _ _ x=>x) (fun y m=>⟨(d.lv _ m).1,?_,fun _=>L y m,fun av J e=>congrArg Prod.snd (d.inj _ _ m J e),fun p av q J e=>q (congrArg Prod.fst (d.inj _ _ m J e)).symm⟩) (fun e=>by cases e) ?_
 . by_cases U:y=none
   . subst U;exact W4.of O
   . exact(d.lv _ m).2.eq (C _ (d.lv _ m).2.lt fun e=>U (congrArg Prod.snd (d.inj _ _ m r e)))
 . refine⟨i9,by simpa[a9O]using af,ag,fun _=>⟨_,T,O,by rw[Go.Sort.putCells,Array.size_mapIdx];exact ai,fun i e he=>?_⟩,fun h=>absurd r h⟩;have aw:i<(R1 l).length:=(by grind);have ax:i<l.length:=(by grind);have ay:e=IN (R1 l)[i]:=(by grind);subst ay;refine⟨rfl,fun j c s=>?_⟩;cases j with
   |succ j=>simp[l9]at s
   |zero=>
    have az:c=IN (R1 l)[i]:=(a0c s).symm;subst az;refine⟨Value.int .i64 ((R1 l)[i]:Int),?_,rfl,rfl⟩;have hu:=an i ax;have aA:zs[i]! =((R1 l)[i]:Int):=by rw[H];simp[aw]
    unfold Go.Sort.putCells;rw[Array.getElem?_mapIdx,show i*1+0=i by omega,hu];simp only[a2o];rw[if_pos ⟨D6 _,i9⟩];simp[aA]
set_option maxHeartbeats 16000000
def a7V(t:j9)(s:By)(r:PV):Prop:=∃c C,a2C t s c C∧(0≤FC c C 0 0∧r=.tup [WR t (wr t s (FC c C) (FC c C 0 0).toNat 0 0 (FC c C 0 0)),IN s.length,I 0]∨FC c C 0 0<0∧∃l:Nat,r=.tup [.agg [.nils,.nils],IN l,I 61])
theorem c1Y{L:List Nat}(h:L.Pairwise (· < ·))(h0:0∈L):∃l,L=0::l:=by
 match L,h,h0 with
 |a::l,h,h0=>
  rcases a0p.1 h0 with h1|h1
  . exact⟨l,by rw[h1]⟩
  . have:=(List.pairwise_cons.1 h).1 0 h1;omega
theorem d0i(n:Nat)(c:List (List Nat))(C:List (List Int)):(W6 n (n+1) c C).map B4=KF n c C:=by unfold W6 KF;rw[a1w];refine K3 fun j _=>?_;have h:n<j+(n+1):=i9;simp only[Function.comp_apply,if_pos h];cases c.getD j []<;>rfl
theorem c0t(t:j9)(a:s8 t)(s:By)(hs:s.length≤1100000000)(hb:Z8 s=none):∃r,a7V t s r∧F0 11 [1,1,0,0] [TP t,St s] r:=by
 have u:=a0G a;have w:=b0z s hs;have i:=b4E t a.ok;have y:U6 t=true:=(a9q t).2 a;rw[y]at i;refine a1C mixed (X:=X11) K4 27 (by simp[X11]) (by kernel_rfl) fun Q j u=>?_;simp[X11];refine m6 w ?_;simp[hb];refine m6 i ?_;simp;obtain⟨r,ws,⟨k,R8,R9,R11,R12,R13,R14,g15,rfl,rfl⟩,z⟩:=c5w t a s hs (1,.var [IN t.modes,UN t.accept,.slc (t.rules.map RP)]) (1,.var [.nils,.nils]) dd dd;refine a2H z ?_;simp;obtain⟨r,ws,⟨c,kn,last,ver,R15,R16,R17,R18,g19,g20,A,rfl,m,rfl⟩,B⟩:=c7q c6S c3C t a s hs k (1,.var [IN t.modes,UN t.accept,.slc (t.rules.map RP)]) (1,.var [.nils,.nils]) dd dd (1,.var (TC t)) R8 R9 R11 R12 R13 R14 g15;refine a2H B ?_;simp;obtain⟨r,ws,⟨C,P,R21,R22,R23,R24,R25,R26,rfl,E,rfl⟩,F⟩:=d0l t a s hs k (1,.var [IN t.modes,UN t.accept,.slc (t.rules.map RP)]) (1,.var [.nils,.nils]) dd dd (1,.var (TC t)) R8 R9 R11 R12 R13 R14 R15 R16 R17 R18 (g19,.dead) (g20,.dead) dd dd dd dd (A,.dead) 0 last ver c kn m;refine a2H F ?_;have b:=m.a2T a E;have d:=b5u s.length (s.length+1) c C;obtain⟨l,e⟩:=c1Y (b.sorted 0 (D6 _)) b.root;have n:=b.pq.len 0 (D6 _) i9;obtain⟨v,D,o⟩:∃v D,C.getD 0 []=v::D:=by
  match hX:C.getD 0 []with
  | []=>rw[hX,e]at n;simp at n
  |v::D=>exact⟨v,D,rfl⟩
 have f:FC c C 0 0=v:=by unfold FC a0o;rw[e,o];simp
 have p:(W6 s.length (s.length+1) c C)[0]'(by rw[d];omega)=.agg [.slc ((0::l).map IN),.uslc ((v::D).map I)]:=by
  have h:(W6 s.length (s.length+1) c C)[0]?=some (.agg [.slc ((0::l).map IN),.uslc ((v::D).map I)]):=by rw[c0L (D6 _) i9,e,o];rfl
  rw[m7 (by rw[d];omega)]at h;exact a0c h
 have G:=d0i s.length c C;have H:(∀x,x∈W6 s.length (s.length+1) c C→D5 x=true)=True:=eq_true (b5j _ _ _ _);have J:List.map (B4∘SA) (D8 t)=(D8 t).map SA:=K3 fun _ _=>rfl;have q:(D8 t).length=(j4 t).length:=by simp[D8]
 have K:List.take (j4 t).length (List.map SA (D8 t))=(D8 t).map SA:=S7 (by simp[q]);have L:List.take (j4 t).length (List.map SP (j4 t))=(j4 t).map SP:=S7 l5;have M:List.take (s.length+1) (KF s.length c C)=KF s.length c C:=S7 (by grind);by_cases g:v<0
 . simp[d,p,g,-a9H];rw[a9H];unfold B3;simp[-a9H];refine j _ _ _ ⟨c,C,b,.inr ⟨by rw[f];exact g,last,rfl⟩⟩ ?_;simp[X11]
 . have hw:=fun N O=>c8I t a s hs c C b N O (by rw[f];omega);simp[d,p,g,G,H,J,K,L,M,q];refine m6 (hw _ _) ?_;simp;refine j _ _ _ ⟨c,C,b,.inl ⟨by rw[f];omega,rfl⟩⟩ ?_;simp[X11]
def b5z(t:j9)(s:By)(r:PV):Prop:=∃c C,a2C t s c C∧(0≤FC c C 0 0∧r=I (FC c C 0 0)∨FC c C 0 0<0∧r=I (-1))
theorem a2C.b2z{t:j9}{s:By}{c:List (List Nat)}{C:List (List Int)}(h:a2C t s c C)(a:s8 t)(h0:0≤FC c C 0 0):∃b,F6 t start (wr t s (FC c C) (FC c C 0 0).toNat 0 0 (FC c C 0 0))=some b∧C0 t b=true∧J8 t (wr t s (FC c C) (FC c C 0 0).toNat 0 0 (FC c C 0 0))=s∧((C8 t (wr t s (FC c C) (FC c C 0 0).toNat 0 0 (FC c C 0 0))).length:Int)=FC c C 0 0:=by
 have:=h.c0r a (FC c C 0 0).toNat 0 0 (D6 _) h.root h0 i9;have e:(j4 t).getD 0 D7=start:=by rw[u9,a2D a];rfl
 rw[e]at this;exact this
section
variable{a b:j9}
structure Few(a b:j9):Prop where
 modes:a.modes=b.modes
 acc:a.accept=b.accept
 rules:∀r∈a.rules,r∈b.rules
theorem Few.C0(h:Few a b)(s:State):T.C0 a s=T.C0 b s:=by unfold T.C0;rw[h.modes,h.acc]
theorem Few.step(h:Few a b){s s':State}{k:Nat}(hs:T.step a s k=some s'):∃c,T.step b s c=some s'∧(a.rules.getD k default)=(b.rules.getD c default):=by
 unfold T.step at hs⊢;obtain⟨r,hr,hs⟩:=Y4.1 hs;obtain⟨j,hj,he⟩:=a1t (h.rules r (D4 hr));refine⟨j,?_,?_⟩
 . grind
 . grind
theorem Few.run(h:Few a b):∀{q:List Nat} {s s':State},F6 a s q=some s'→∃q',F6 b s q'=some s'∧J8 b q'=J8 a q∧C8 b q'=C8 a q
 | [],s,s',hs=>⟨[],hs,rfl,rfl⟩
 |k::q,s,s',hs=>by
  obtain⟨s1,e,f⟩:=Y4.1 (show(T.step a s k).bind (fun s'=>F6 a s' q)=some s' from hs);obtain⟨c,h1,d⟩:=h.step e;obtain⟨q',g1,g2,g3⟩:=h.run f;refine⟨c::q',?_,?_,?_⟩
  . show(T.step b s c).bind _=_;rw[h1];exact g1
  . rw[a3R,a3R,g2,d]
  . show(b.rules.getD c default).cells++C8 b q'=(a.rules.getD k default).cells++C8 a q;rw[g3,d]
theorem Few.lng(h:Few a b){l:List Nat}{x:By}(c:T8 a l x):T8 b l x:=by obtain⟨q,s',h1,d,e,f⟩:=c;obtain⟨q',g1,g2,g3⟩:=h.run h1;exact⟨q',s',g1,by rw[←h.C0];exact d,g3.trans e,g2.trans f⟩
theorem Few.two(h:Few a b)(c:Two a):Two b:=by obtain⟨l,x,y,d,e,f⟩:=c;exact⟨l,x,y,h.lng d,h.lng e,f⟩
theorem b7u{t:j9}(h:¬Two t){l:List Nat}{x y:By}(a:T8 t l x)(b:T8 t l y):x=y:=Classical.byContradiction fun c=>h ⟨l,x,y,a,b,c⟩
end
def b5x(c:Nat):UInt8:=if c=1 then 97 else if c=3 then 98 else if c=9 then 99 else 32
def b8X(b:UInt8):Nat:=if b=97 then 1 else if b=98 then 3 else if b=99 then 9 else 0
theorem c7m:∀k,k<4→((H8 0).rules.getD k default).print=((H8 0).rules.getD k default).cells.map b5x∧((H8 0).rules.getD k default).cells=((H8 0).rules.getD k default).print.map b8X
 |0,_=>⟨I7,I7⟩
 |1,_=>⟨I7,I7⟩
 |2,_=>⟨I7,I7⟩
 |3,_=>⟨I7,I7⟩
 |k+4,h=>absurd h i9
theorem b0y:∀(q:List Nat) (s s':State),F6 (H8 0) s q=some s'→J8 (H8 0) q=(C8 (H8 0) q).map b5x∧C8 (H8 0) q=(J8 (H8 0) q).map b8X
 | [],s,s',h=>⟨rfl,rfl⟩
 |k::q,s,s',h=>by obtain⟨s1,a,b⟩:=Y4.1 (show(T.step (H8 0) s k).bind (fun s'=>F6 (H8 0) s' q)=some s' from h);obtain⟨h1,c⟩:=c7m k (a2s a);obtain⟨g1,g2⟩:=b0y q s1 s' b;have d:C8 (H8 0) (k::q)=((H8 0).rules.getD k default).cells++C8 (H8 0) q:=rfl;rw[a3R,d,Q9,Q9,←g1,←g2,←h1,←c];exact⟨rfl,rfl⟩
theorem b7n:¬Two (H8 0):=fun⟨l,x,y,⟨q,s,a,_,a3,a4⟩,⟨q',s',b,_,c,d⟩,e⟩=>e (by rw[←a4,←d,(b0y q _ _ a).1,(b0y q' _ _ b).1,a3,c])
theorem b7s:∃s',F6 (H8 0) start [0,1,3,2]=some s'∧C0 (H8 0) s'=true:=by refine⟨_,rfl,I7⟩
theorem b7T:T8 (H8 0) [1,3,0,9] [97,98,32,99]:=by obtain⟨s',h1,a⟩:=b7s;exact⟨_,s',h1,a,I7,I7⟩
theorem c1Q:Two (H8 4):=by
 have h1:∃s',F6 (H8 4) start [0,1]=some s'∧C0 (H8 4) s'=true:=⟨_,rfl,I7⟩
 have a:∃s',F6 (H8 4) start [4]=some s'∧C0 (H8 4) s'=true:=⟨_,rfl,I7⟩
 obtain⟨s1,b,a2⟩:=h1;obtain⟨s2,c,d⟩:=a;exact⟨[1,3],[97,98],[45],⟨[0,1],s1,b,a2,I7,I7⟩,⟨[4],s2,c,d,I7,I7⟩,I7⟩
theorem s8.sm{t:j9}(h:s8 t∧t.modes≤2∧t.rules.length≤8∧∀r∈t.rules,r.cells.length≤3):Sm t:=⟨h.2.1,by have:=h.2.2.1;omega,h.2.2.2⟩
structure a3r(t:j9)(s:By)(q:List Nat):Prop where
 run:∃st,F6 t start q=some st∧C0 t st=true
 text:J8 t q=s
theorem a3r.lng{t:j9}{s:By}{q:List Nat}(h:a3r t s q):T8 t (C8 t q) s:=by obtain⟨st,h1,a⟩:=h.run;exact⟨q,st,h1,a,rfl,h.text⟩
theorem b8z(t:j9)(a:s8 t):∀(q:List Nat) (s s':State),F6 t s q=some s'→∀b∈J8 t q,a0H b=true
 | [],_,_,_=>fun b hb=>by cases hb
 |k::q,s,s',h=>fun b hb=>by
  obtain⟨s1,d,e⟩:=Y4.1 (show(T.step t s k).bind (fun s'=>F6 t s' q)=some s' from h);rw[a3R]at hb;rcases I4.1 hb with hb|hb
  . have c:=a2s d;rw[u9,m7 c,a4F]at hb;have:=(a2w (a.sound _ (B7 c))).text;unfold Z8 at this
    grind
  . exact b8z t a q s1 s' e b hb
theorem a7V.ok{t:j9}(d:s8 t){s:By}{r:PV}(h:a7V t s r){q:List Nat}(f:a3r t s q):∃q',r=.tup [WR t q',IN s.length,I 0]∧a3r t s q'∧∀a,a3r t s a→(C8 t q').length≤(C8 t a).length:=by
 obtain⟨c,C,e,h⟩:=h;have l:(j4 t).getD 0 D7=start:=by rw[u9,a2D d];rfl
 have low:∀a,a3r t s a→0≤FC c C 0 0∧FC c C 0 0≤(C8 t a).length:=fun a b=>by obtain⟨st,g1,g2⟩:=b.run;exact e.low d (D6 _) e.root (by grind) g2 (by rw[b.text,a9C])
 have h0:=(low q f).1;rcases h with⟨_,h⟩|⟨h,_⟩
 . obtain⟨g,i,j,k,m⟩:=e.b2z d h0;refine⟨_,h,⟨⟨g,i,j⟩,k⟩,fun a b=>?_⟩;have:=(low a b).2;omega
 . omega
theorem b5z.ok{t:j9}(d:s8 t){s:By}{r:PV}(h:b5z t s r){q:List Nat}(f:a3r t s q):∃q',r=IN (C8 t q').length∧a3r t s q'∧∀a,a3r t s a→(C8 t q').length≤(C8 t a).length:=by
 obtain⟨c,C,e,h⟩:=h;have m:(j4 t).getD 0 D7=start:=by rw[u9,a2D d];rfl
 have low:∀a,a3r t s a→0≤FC c C 0 0∧FC c C 0 0≤(C8 t a).length:=fun a b=>by obtain⟨st,g1,g2⟩:=b.run;exact e.low d (D6 _) e.root (by grind) g2 (by rw[b.text,a9C])
 have h0:=(low q f).1;rcases h with⟨_,h⟩|⟨h,_⟩
 . obtain⟨g,i,j,k,l⟩:=e.b2z d h0;refine⟨wr t s (FC c C) (FC c C 0 0).toNat 0 0 (FC c C 0 0),by rw[h];exact congrArg I l.symm,⟨⟨g,i,j⟩,k⟩,fun a b=>?_⟩;have:=(low a b).2;omega
 . omega
theorem c7r:F0 7 [0] [] (B true):=by
 obtain⟨v0,s0⟩:s8 (H8 0)∧Sm (H8 0):=by have h:=b2L 0 i9;exact⟨h.1,s8.sm h⟩
 obtain⟨v4,k⟩:s8 (H8 4)∧Sm (H8 4):=by have h:=b2L 4 i9;exact⟨h.1,s8.sm h⟩
 obtain⟨rw,l,m⟩:=c0t (H8 0) v0 [97,98,32,99] l5 I7;have n:a3r (H8 0) [97,98,32,99] [0,1,3,2]:=⟨b7s,I7⟩
 obtain⟨q',rfl,f,_⟩:=l.ok v0 n;have g:C8 (H8 0) q'=[1,3,0,9]:=by obtain⟨st,g1,_⟩:=f.run;rw[(b0y q' _ _ g1).2,f.text];decide
 have hS:=b2Z v0 s0.m2;obtain⟨o,d,p⟩:=c0q (H8 0) v0 [1,3,0,9] l5 (by have:(H8 0).rules.length=4:=rfl;rw[this];have:([1,3,0,9]:List Nat).length=4:=rfl;rw[this];omega)
 have d:o=.tup [St [97,98,32,99],IN 4,I 0]:=by
  rcases d with⟨x,e,rfl⟩|⟨e,_⟩
  . rw[b7u b7n e b7T];rfl
  . exact absurd ⟨_,b7T⟩ e
 subst d;obtain⟨rc,q,r⟩:=b5b (H8 4) v4 k;rcases q with⟨_,s⟩|⟨w,a,b,rfl,C,D,hb,E,t⟩
 . exact absurd c1Q s
 obtain⟨c,u,v⟩:=b5f (H8 0) v0 s0;obtain rfl:c=true:=u.2 b7n;have i:=a7m (H8 0) start v0.ok c6Z;have y:C0 (H8 0) start=true:=I7;rw[y]at i;have j:=b3J (C8 (H8 0) q') [1,3,0,9] (by rw[g];simp);rw[decide_eq_true g]at j;have z:F0 28 [0,0,6] [U 4] (TP (H8 4)):=b2K 4;refine E4 c7 8 (by simp[X7]) fun Q A F=>?_;simp[X7];refine m6 c6L ?_;simp;refine m6 m ?_;simp;refine m6 p ?_;simp;refine m6 z ?_;simp;refine m6 r ?_;simp;refine m6 j ?_;simp[show(a==b)=false from beq_eq_false_iff_ne.2 t];refine m6 v ?_;simp;refine m6 b8s ?_;simp;refine m6 i ?_;simp;refine A _ _ ?_;simp[X7]
theorem c5F(t:j9)(d:s8 t)(l:List Nat)(D:l.length≤9223372036854775807)(B:∀x∈l,x<256):
 ∃r,(∃p:By,r=St p∧p.length≤12∧∀b∈p,a0H b=true)∧F0 59 [0] [TP t,CL l] r:=by
 have E:=d.l1;have F:=d.l64;refine a1C mixed (X:=X59) c59 2 (by simp[X59]) (by kernel_rfl) fun Q n G=>?_;simp[X59];refine I6 (fun(x:Nat×By) vs h=>x.1≤l.length∧x.1≤12∧x.2.length≤12∧(∀b∈x.2,a0H b=true)∧vs=[.uu,CL l,.ptr 1 1 0,.uu,St x.2,IN x.1,.uu,.uu,.uu]∧h=[dd,(1,.var [IN t.modes,UN t.accept,.slc (t.rules.map RP)])]) (fun x=>12-x.1) (0,[]) ?_ ?_
 . simp
 . rintro⟨i,p⟩ vs h ⟨g1,g2,g3,g4,rfl,rfl⟩ Q' o q H;dsimp only at g1 g2 g3 g4;by_cases a:i<l.length
   . by_cases g:i<12
     . have s:=wk1 i i9;have I:=B _ (B7 a);have c:0<t.rules.length:=i9;have u:¬(t.rules.length:Int)=0:=i9;have v:¬t.rules=[]:=fun e=>(by rw[e]at c;simp at c);have w:IntKind.i64.wrap (l[i]:Int)=(l[i]:Int):=I9;obtain⟨k,y⟩:=p7 (l[i]%t.rules.length);have z:((l[i]:Int)).tmod (t.rules.length:Int)=(k:Int):=(by rw[y];rfl);have f:k<t.rules.length:=(by rw[y];exact a5c _ c);have j:=(a2w (d.sound _ (B7 f))).text;unfold Z8 at j;rw[a5P]at j;have A:IntKind.i64.wrap ((p.length:Int)+((t.rules[k]).print.length:Int))=(p.length:Int)+((t.rules[k]).print.length:Int):=by
        have:=(a2w (d.sound _ (B7 f))).p4;exact wrap_ok i9 i9
       by_cases hs:p.length+(t.rules[k]).print.length≤12
       . have m:(p.length:Int)+((t.rules[k]).print.length:Int)≤12:=i9;have C:¬(9223372036854775807:Int)<(p.length:Int)+((t.rules[k]).print.length:Int):=i9;simp[a,g,c,u,v,w,z,f,A,m,C,s];refine o (i+1,p++(t.rules[k]).print) _ _ i9 ?_;simp;refine⟨i9,i9,i9,fun b hb=>?_⟩;rcases hb with hb|hb
         . exact g4 b hb
         . simpa using j b hb
       . have m:¬(p.length:Int)+((t.rules[k]).print.length:Int)≤12:=i9;simp[a,g,c,u,v,w,z,f,A,m,s];refine o (i+1,p) _ _ i9 ?_;simp;exact⟨i9,i9,i9,g4⟩
     . have J:i=12:=i9;simp[a,g];refine q _ _ _ ?_;simp;refine n (St p) _ _ ⟨p,rfl,g3,g4⟩ ?_;simp[X59]
   . simp[a];refine q _ _ _ ?_;simp;refine n (St p) _ _ ⟨p,rfl,g3,g4⟩ ?_;simp[X59]
abbrev RW7(a c:UInt8)(l:List Nat):PV:=.agg [U a.toNat,U c.toNat,CL l]
theorem c9X(t:j9)(q:s8 t)(s:By)(hs:s.length≤1000000000)(d e:UInt8)(l:List Nat)(S:l.length≤9223372036854775807)(u:∀x∈l,x<256):
 ∃r,(∃(a c:Nat) (p:By),r=CP a c p∧a≤s.length∧c≤s.length-a∧p.length≤12∧(p=[]∨s.length+p.length≤40)∧∀b∈p,a0H b=true)∧F0 20 [0,0,0] [TP t,St s,RW7 d e l] r:=by
 have h1:=d.toNat_lt;have T:=e.toNat_lt;obtain⟨i,j⟩:=p7 (l.take (min l.length 3));obtain⟨r,⟨p,rfl,v,w⟩,y⟩:=c5F t q i (by grind) (fun x z=>u x (b1N (j▸z)));refine a1C mixed (X:=X20) O7 4 (by simp[X20]) (by kernel_rfl) fun Q k U=>?_;obtain⟨a,A⟩:=p7 (d.toNat%(s.length+1));have B:IntKind.i64.wrap (d.toNat:Int)=(d.toNat:Int):=I9;have C:=wk1 s.length i9;have D:(d.toNat:Int).tmod ((s.length:Int)+1)=(a:Int):=by rw[A];rfl
 have m:a≤s.length:=by have:=a5c d.toNat (show 0<s.length+1 by omega);omega
 have E:¬(s.length:Int)+1=0:=i9;obtain⟨g,F⟩:=p7 (min l.length 3);have G:(if 3<l.length then(3:Int)else(l.length:Int))=(g:Int):=by split<;>omega
 have H:g≤l.length:=i9;have I:List.take g (List.map UN l)=i.map UN:=by rw[j,←F,a1X]
 obtain⟨f,V⟩:=p7 (min (s.length-a) 5);have J:IntKind.i64.wrap ((s.length:Int)-(a:Int))=((s.length-a:Nat):Int):=(wrap_ok i9 i9).trans i9;have K:(if 5<s.length-a then(5:Int)else((s.length-a:Nat):Int))=(f:Int):=by split<;>omega
 have L:=wk1 f i9;have M:¬(f:Int)+1=0:=i9;have N:IntKind.i64.wrap (e.toNat:Int)=(e.toNat:Int):=I9;obtain⟨c,O⟩:=p7 (e.toNat%(f+1));have P:(e.toNat:Int).tmod ((f:Int)+1)=(c:Int):=by rw[O];rfl
 have n:c≤s.length-a:=by have:=a5c e.toNat (show 0<f+1 by omega);omega
 have o:IntKind.i64.wrap ((s.length:Int)+(p.length:Int))=(s.length:Int)+(p.length:Int):=I9;simp[X20,B,C,D,E,G,H,I,J,K,L,M,N,P];refine m6 y ?_;by_cases R:s.length+p.length≤40
 . have h:¬(40:Int)<(s.length:Int)+(p.length:Int):=i9;simp[o,h];refine k (CP a c p) _ _ ⟨a,c,p,rfl,m,n,v,.inr R,w⟩ ?_;simp[X20]
 . have h:(40:Int)<(s.length:Int)+(p.length:Int):=i9;simp[o,h];refine k (CP a c []) _ _ ⟨a,c,[],rfl,m,n,l5,.inl rfl,l5⟩ ?_;simp[X20]
theorem c2z(s:By)(hs:s.length≤1000000000)(a c:Nat)(p:By)(b:a≤s.length)(d:c≤s.length-a):F0 21 [0] [St s,CP a c p] (B true):=by have e:IntKind.i64.wrap ((s.length:Int)-(a:Int))=((s.length-a:Nat):Int):=(wrap_ok i9 i9).trans i9;refine E4 P1 1 (by simp[X21]) fun Q f g=>?_;simp[X21,b,d,e];refine f _ _ ?_;simp[X21]
theorem c8T(s:By)(hs:s.length≤1000000000)(a c:Nat)(p:By)(hp:p.length≤1000)(b:a≤s.length)(m:c≤s.length-a):F0 22 [0] [St s,CP a c p] (St (s.take a++p++s.drop (a+c))):=by have d:IntKind.i64.wrap ((a:Int)+(c:Int))=(a:Int)+(c:Int):=I9;have e:(a:Int)+(c:Int)≤(s.length:Int):=i9;have f:(0:Int)≤(a:Int)+(c:Int):=i9;have g:((a:Int)+(c:Int)).toNat=a+c:=i9;have h:¬(9223372036854775807:Int)<(a:Int)+(p.length:Int):=i9;have i:List.take (s.length-(a+c)) (List.drop (a+c) s)=List.drop (a+c) s:=S7 l5;have j:a+c≤s.length:=i9;have k:¬(9223372036854775807:Int)<(a:Int)+(p.length:Int)+((s.length-(a+c):Nat):Int):=i9;refine E4 c22 1 (by simp[X22]) fun Q l n=>?_;simp[X22,b,d,e,f,g,h,i,j,k];refine l _ _ ?_;simp[X22]
theorem c9P(a:List Nat)(f:a.length≤1100000000):F0 63 [0] [.slc (a.map IN),.slc (a.map IN)] (B true):=by
 refine E4 c63 0 (by simp[X63]) fun Q b g=>?_;simp[X63];refine I6 (fun(k:Nat) vs h=>k≤a.length∧vs=[.slc (a.map IN),.slc (a.map IN),.uu,IN k,.uu,.uu,.uu]∧h=[]) (fun k=>a.length-k) 0 ?_ ?_
 . simp
 . rintro k vs h ⟨g1,rfl,rfl⟩ Q' c d i;by_cases e:k<a.length
   . have hw:=wk1 k i9;simp[e,hw];refine c (k+1) _ _ i9 ?_;simp;omega
   . obtain rfl:k=a.length:=i9;simp;refine d _ _ _ ?_;simp;refine b _ _ ?_;simp[X63]
theorem b8g(c q:List Nat)(a:c.length≤1100000000)(b:q.length≤1100000000):F0 26 [0] [.agg [CL c,.slc (q.map IN)],.agg [CL c,.slc (q.map IN)]] (B true):=by refine E4 c26 2 (by simp[X26]) fun Q d e=>?_;simp[X26];refine m6 (b3J c c a) ?_;simp;refine m6 (c9P q b) ?_;simp;refine d _ _ ?_;simp[X26]
theorem c0Q{t:j9}(a:s8 t):∀(q:List Nat) (s s':State),F6 t s q=some s'→q.length≤(C8 t q).length
 | [],_,_,_=>by simp
 |k::q,s,s',h=>by obtain⟨s1,b,c⟩:=Y4.1 (show(T.step t s k).bind (fun s'=>F6 t s' q)=some s' from h);have d:=c0Q a q s1 s' c;have h1:=a7n a b;unfold A7 at h1;simp only[C8,a2Z,a0D,a0a]at d⊢;omega
theorem a7V.two{t:j9}(a:s8 t){s:By}{r:PV}(h:a7V t s r):(∃q,r=.tup [WR t q,IN s.length,I 0]∧a3r t s q∧(C8 t q).length≤12288*(s.length+1)∧q.length≤(C8 t q).length)∨∃l:Nat,r=.tup [.agg [.nils,.nils],IN l,I 61]:=by
 obtain⟨c,C,b,h⟩:=h;rcases h with⟨h0,h⟩|⟨_,h⟩
 . obtain⟨e,d,f,g,i⟩:=b.b2z a h0;have:=b.bd (p:=0) (x:=0) (D6 _);exact .inl ⟨_,h,⟨⟨e,d,f⟩,g⟩,i9,c0Q a _ _ _ d⟩
 . exact .inr h
theorem c4Z(t:j9)(m:Mem){q:List Nat}{n:Nat}(hw:F0 11 [1,1,0,0] [TP t,St m.text] (.tup [WR t q,IN n,I 0])):F0 25 [1,1,0] [TP t,MM m] (.tup [WR t q,I 0]):=by refine E4 c25 6 (by simp[X25]) fun Q a b=>?_;simp[X25];refine m6 hw ?_;simp;refine a _ _ ?_;simp[X25]
theorem c8F(t:j9)(m:Mem){n:Nat}(hw:F0 11 [1,1,0,0] [TP t,St m.text] (.tup [.agg [.nils,.nils],IN n,I 61])):F0 25 [1,1,0] [TP t,MM m] (.tup [.agg [.nils,.nils],I 61]):=by refine E4 c25 6 (by simp[X25]) fun Q a b=>?_;simp[X25];refine m6 hw ?_;simp;refine a _ _ ?_;simp[X25]
structure Ed where
 (a c:UInt8)
 l:List UInt8
abbrev EdP(e:Ed):PV:=RW7 e.a e.c (e.l.map UInt8.toNat)
def Lk:Nat→Int
 |0=>0
 |k+1=>3*Lk k+50000000000000
theorem c9E{k:Nat}(h:k≤3):0≤Lk k∧(k<3→Lk k≤300000000000000):=by
 match k,h with
 |0,_|1,_|2,_|3,_=>simp[Lk]
theorem d0f(x:RwT)(V:∀w∈x.more,w.p.length≤9223372036854775807∧w.c.length≤9223372036854775807)(W:x.more.length≤9223372036854775807)(l:List Nat)(X:l.length≤9223372036854775807)(Y:∀c∈l,c<256)
 (ed:List Ed) (he:ed.length≤9223372036854775807) (Z:∀e∈ed,e.l.length≤9223372036854775807):
 F0 6 [0] [RwP x,CL l,.slc (ed.map EdP)] (B true):=by
 obtain⟨aF,⟨t,c,rfl,aa,g,r,aG⟩,ab⟩:=c4a x V W;obtain⟨ac,ad,ae⟩:=b5f t g r;obtain⟨p,b,H,J,K⟩:=c3W t g l X Y;obtain⟨s,hs⟩:=p7 (J8 t p);have af:s.length≤20000:=by
  have h1:=b2J g p;cases b with
  |true=>have:=(H rfl).len;rw[hs];omega
  |false=>rw[hs,(J rfl).1];simp[J8]
 have L:∀y∈s,a0H y=true:=by
  cases b with
  |true=>
   obtain⟨st,h1,_⟩:=(H rfl).run;rw[hs];exact b8z t g p _ _ h1
  |false=>rw[hs,(J rfl).1];simp[J8]
 rw[←hs]at K;obtain⟨r0,⟨ag,rfl,ah,ai⟩,aj⟩:=d0j t g s i9 L;refine E4 c6 18 (by simp[X6]) fun Q D aH=>?_;simp[X6];refine m6 c7r ?_;simp;refine m6 ab ?_;rcases aa with rfl|⟨es,rfl,M,ak⟩
 case' inl=>simp
 case' inr=>
  have hlen:es.length=t.rules.length:=by rw[←N5 (f:=B4),M,N5]
  have al:(∀e∈es,D5 e=true)=True:=eq_true ak;simp[al,M,hlen]
 all_goals
  refine m6 K ?_;simp;refine m6 aj ?_;simp;refine b0W (Q:=fun e vs h=>e=.exit 0∧∃(m:Mem) (i:Nat) (z:PV),m.text.length≤20000∧(∀y∈m.text,a0H y=true)∧
   vs=[.uu,.uu,.slc (ed.map EdP),.uu,.uu,B true,.ptr 16 1 0,St m.text,.ptr 17 1 0,.uu,IN i,.uu,.uu,.uu,.uu,.uu,.uu,.uu,.uu,.uu,.uu,.uu,.uu,z,.uu,.uu,.uu,.uu]∧
   h=[dd,dd,dd,dd,dd,dd,dd,dd,dd,dd,dd,dd,dd,dd,dd,dd,(1,.var [IN t.modes,UN t.accept,.slc (t.rules.map RP)]),(1,.var [St m.text,.slc (m.rows.map S3),.slc (m.least.map I)])]) ?_ ?_
  . rintro e vs h ⟨rfl,m,i,z,v,j,rfl,rfl⟩;have am:Z8 m.text=none:=a5P.2 fun y d=>(by simp[j y d]);obtain⟨rw1,an,A⟩:=c0t t g m.text i9 am;simp;rcases an.two g with⟨q,rfl,N,aI,aJ⟩|⟨n,rfl⟩
    . have aK:(C8 t q).length≤300000000:=i9;have E:=c4Z t m A;have F:=b8g (C8 t q) q i9 i9;refine m6 E ?_;simp;refine m6 A ?_;simp;refine m6 F ?_;simp;refine m6 ae ?_;cases ac with
      |false=>
       simp;refine D _ _ ?_;simp[X6]
      |true=>
       have ao:¬Two t:=ad.1 rfl;have ap:=b2Z g r.m2;have aq:((C8 t q).length+1)*((j4 t).length*t.rules.length+5*t.rules.length)<4000000000000:=by have h1:(j4 t).length*t.rules.length≤768*10:=a5S ap r.r10;have C:=r.r10;have aL:((C8 t q).length+1)*((j4 t).length*t.rules.length+5*t.rules.length)≤300000001*7730:=a5S i9 i9;omega
       obtain⟨r2,ar,au⟩:=c0q t g (C8 t q) i9 aq;obtain rfl:r2=.tup [St m.text,IN (C8 t q).length,I 0]:=by
        rcases ar with⟨y,d,rfl⟩|⟨d,_⟩
        . rw[b7u ao d N.lng]
        . exact absurd ⟨_,N.lng⟩ d
       simp;refine m6 au ?_;simp;refine D _ _ ?_;simp[X6]
    . have E:=c8F t m A;have F:=b8g [] [] l5 l5;refine m6 E ?_;simp;refine m6 A ?_;simp;refine m6 F ?_;simp;refine D _ _ ?_;simp[X6]
  refine I6 (fun(x:Nat×Mem) vs h=>x.1≤ed.length∧x.1≤3∧x.2.text.length≤20000∧(∀y∈x.2.text,a0H y=true)∧MOk (j4 t).length (Lk x.1) x.2∧
   vs=[.uu,.uu,.slc (ed.map EdP),.uu,.uu,B true,.ptr 16 1 0,St x.2.text,.ptr 17 1 0,.uu,IN x.1,.uu,.uu,.uu,.uu,.uu,.uu,.uu,.uu,.uu,.uu,.uu,.uu,.uu,.uu,.uu,.uu,.uu]∧
   h=[dd,dd,dd,dd,dd,dd,dd,dd,dd,dd,dd,dd,dd,dd,dd,dd,(1,.var [IN t.modes,UN t.accept,.slc (t.rules.map RP)]),(1,.var [St x.2.text,.slc (x.2.rows.map S3),.slc (x.2.least.map I)])]) (fun x=>3-x.1) (0,ag) ?_ ?_
  . simp[ah];exact⟨af,L,ai⟩
  rintro⟨i,m⟩ vs h ⟨g1,g2,g3,g4,g5,rfl,rfl⟩ Q' av O aM;dsimp only at g1 g2 g3 g4 g5;by_cases hi:i<ed.length
  . by_cases C:i<3
    . obtain⟨e,P⟩:=p7 (ed[i]);have aw:=wk1 i i9;obtain⟨ax,ay⟩:=c9E (k:=i) i9;have aN:=Z e (P▸B7 hi);obtain⟨aO,⟨a,o,q,rfl,v,j,aP,aQ,aR⟩,aS⟩:=c9X t g m.text i9 e.a e.c (e.l.map UInt8.toNat) (by grind) (fun y d=>by obtain⟨z,_,rfl⟩:=E5.1 d;exact z.toNat_lt);obtain⟨u,hu⟩:=p7 (m.text.take a++q++m.text.drop (a+o));have G:∀y∈u,a0H y=true:=fun y d=>by
       rw[hu]at d;rcases I4.1 d with d|d
       . grind
       . exact g4 y (List.mem_of_mem_drop d)
      have az:u.length≤20000:=(by grind);have aA:=c2z m.text i9 a o q v j;have R:=c8T m.text i9 a o q i9 v j;obtain⟨rc,⟨w,k,rfl,S,aB⟩,aC⟩:=c3Y t g m (Lk i) ax (ay C) g5 i9 a o q v j i9 (hu▸G);rw[←hu]at R S;have aD:F0 20 [0,0,0] [TP t,St m.text,.agg [U e.a.toNat,U e.c.toNat,.slc (e.l.map (UN∘UInt8.toNat))]] (CP a o q):=(by grind);have aE:Z8 u=none:=a5P.2 fun y d=>(by simp[G y d]);have T:=b7h u i9;rw[show a4v u=.tup [IN u.length,I 0]by unfold a4v;rw[aE];rfl]at T;simp[hi,C,←P];refine m6 aD ?_;simp;refine m6 aA ?_;simp;refine m6 R ?_;simp;refine m6 aC ?_;simp;refine m6 T ?_;simp[aw];refine av (i+1,w) _ _ i9 ?_;simp[S];exact⟨i9,i9,az,G,aB⟩
    . simp[hi,C];exact O _ _ _ ⟨rfl,m,i,_,g3,g4,rfl,rfl⟩
  . simp[hi];exact O _ _ _ ⟨rfl,m,i,_,g3,g4,rfl,rfl⟩
end Go.Proofs.YtbhfgadikmfjdaaGreat.T
namespace Go.Proofs.YtbhfgadikmfjdaaGreat.editsAgree
open Go.ChangeShapes Go.WideShapes Go.ChangeAt Go.RowKit Go.Proofs.YtbhfgadikmfjdaaGreat.Am
theorem own:ownKnob Tryz.prog.godebug=none:=by kernel_rfl
theorem laidOut:laidOutB Tryz.prog=true:=by kernel_rfl
def a6n:Sh:=.agg (.fd (.slc (.int .u8)) (.fd (.slc (.int .u8)) (.fd (.int .u8) (.fd (.int .u8) (.fd (.agg (.fd (.int .u8) (.fd (.int .u8) .en))) .en)))))
def a7r:Sh:=.agg (.fd (.int .u8) (.fd (.int .u8) (.fd (.slc (.int .u8)) .en)))
def shape:Sh:=(.fd (.agg (.fd (.int .u8) (.fd (.int .u8) (.fd (.slc a6n) .en)))) (.fd (.slc (.int .u8)) (.fd (.slc a7r) .en)))
def u8(n:Int):UInt8:=UInt8.ofNat n.toNat
theorem b7E{n:Int}(h:(Lit.int .u8 n).wf=true):((u8 n).toNat:Int)=n:=by have:=bounds_u8 h;unfold u8;rw[T.ofNat_toNat i9];omega
theorem b3R{l:List Int}(h:∀x∈l,(Lit.int .u8 x).wf=true):(l.map u8).map T.UB=l.map (PV.int .u8):=by rw[a1w];exact K3 fun x a=>by show PV.int .u8 ((u8 x).toNat:Int)=_;rw[b7E (h x a)]
def rw1(x:a6n.T):T.RW:=⟨List.map u8 (show List Int from x.1),List.map u8 (show List Int from x.2.1),u8 x.2.2.1,u8 x.2.2.2.1,u8 x.2.2.2.2.1.1,u8 x.2.2.2.2.1.2.1⟩
theorem a5v{n:Int}(h:(Lit.int .u8 n).wf=true):T.UB (u8 n)=.int .u8 n:=by show PV.int .u8 ((u8 n).toNat:Int)=_;rw[b7E h]
theorem c3x(x:a6n.T)(h:a6n.ok x):T.RWP (rw1 x)=a6n.pv x:=by obtain⟨p,c,l,r,⟨w0,w1,_⟩,_⟩:=x;obtain⟨h1,a,b,d,⟨e,f,_⟩,_⟩:=h;show PV.agg [.slc ((List.map u8 p).map T.UB),.slc ((List.map u8 c).map T.UB),T.UB (u8 l),T.UB (u8 r),T.UB (u8 w0),T.UB (u8 w1)]=.agg [.slc (List.map (PV.int .u8) p),.slc (List.map (PV.int .u8) c),.int .u8 l,.int .u8 r,.int .u8 w0,.int .u8 w1];rw[b3R h1.2,b3R a.2,a5v b,a5v d,a5v e,a5v f]
def ed1(x:a7r.T):T.Ed:=⟨u8 x.1,u8 x.2.1,List.map u8 (show List Int from x.2.2.1)⟩
theorem b6U{l:List Int}(h:∀x∈l,(Lit.int .u8 x).wf=true):T.CL ((List.map u8 l).map UInt8.toNat)=.slc (List.map (PV.int .u8) l):=by show PV.slc (((List.map u8 l).map UInt8.toNat).map T.UN)=_;rw[a1w,←b3R h];rfl
theorem c8u(x:a7r.T)(h:a7r.ok x):T.EdP (ed1 x)=a7r.pv x:=by obtain⟨a,c,l,_⟩:=x;obtain⟨h1,b,d,_⟩:=h;show PV.agg [T.UB (u8 a),T.UB (u8 c),T.CL ((List.map u8 l).map UInt8.toNat)]=.agg [.int .u8 a,.int .u8 c,.slc (List.map (PV.int .u8) l)];rw[a5v h1,a5v b,b6U d.2]
theorem all_true:∀y:shape.T,shape.ok y→Am.Fn Tryz.prog 6 [0] (shape.pvs y) (.bool true):=by
 rintro⟨⟨a,b,m,_⟩,l,d,_⟩ ⟨⟨h1,k,f,_⟩,j,g,_⟩;have key:=T.d0f ⟨u8 a,u8 b,List.map rw1 m⟩ (fun w hw=>by
  obtain⟨y,h,rfl⟩:=E5.1 hw;obtain⟨g1,g2,_⟩:=f.2 y h;exact⟨by show(List.map u8 _).length≤_;rw[N5];exact g1.1,by show(List.map u8 _).length≤_;rw[N5];exact g2.1⟩) (by
  show(List.map rw1 m).length≤_;rw[N5];exact f.1) ((List.map u8 l).map UInt8.toNat) (by rw[N5,N5];exact j.1) (fun c n=>by
  obtain⟨y,_,rfl⟩:=E5.1 n;exact y.toNat_lt) (List.map ed1 d) (by rw[N5];exact g.1) (fun e he=>by
  obtain⟨y,h,rfl⟩:=E5.1 he;obtain⟨_,_,g3,_⟩:=g.2 y h;show(List.map u8 _).length≤_;rw[N5];exact g3.1)
 have o:(List.map rw1 m).map T.RWP=List.map (fun x=>a6n.pv x) m:=by rw[a1w];exact K3 fun x i=>c3x x (f.2 x i)
 have p:T.RwP ⟨u8 a,u8 b,List.map rw1 m⟩=.agg [.int .u8 a,.int .u8 b,.slc (List.map (fun x=>a6n.pv x) m)]:=by show PV.agg [T.UB (u8 a),T.UB (u8 b),.slc ((List.map rw1 m).map T.RWP)]=_;rw[o,a5v h1,a5v k]
 have q:(List.map ed1 d).map T.EdP=List.map (fun x=>a7r.pv x) d:=by rw[a1w];exact K3 fun x i=>c8u x (g.2 x i)
 rw[b6U j.2,p,q]at key;exact key
set_option maxRecDepth 100000 in
theorem lifted(os:Os)(started:os.Started)(H:Type)(enc:TypeId×Value→H):
 ReturnsInHanded {} Tryz.checked os 6 .any (Rows.topEditsAgreeSpec.pre6 enc Tryz.prog Tryz.f6 Rows.topEditsAgreeRow.domain false) (Rows.topEditsAgreeSpec.post enc Tryz.prog Tryz.f6 false true false false):=
 c8j (C:=Tryz.checked) (F:=shape) (n:=8) own started laidOut (by kernel_rfl) Tryz.func6
  (ChangeSpec.witness6 (enc:=enc) (C:=Tryz.checked) false ⟨#[],#[.agg #[.int .u8 0,.int .u8 0,.slice none 0 0],.slice none 0 0,.slice none 0 0],[]⟩ 8 (by kernel_rfl) (by kernel_rfl) (by kernel_rfl) (by kernel_rfl))
  (by kernel_rfl) (by kernel_rfl) rfl (by kernel_rfl) rfl (fun d h=>by match d,h with| [a,b,c],_=>rfl) all_true
theorem over:Rows.topEditsAgreeRow.holds Tryz.pinned (OpenSpec.ofChange Rows.topEditsAgreeSpec):=
 OpenClaim.holds_of_wide 6 Tryz.f6 rfl rfl rfl rfl rfl rfl rfl ⟨rfl,rfl,rfl,rfl,rfl⟩ rfl rfl rfl rfl rfl (by kernel_rfl) Tryz.func6 (by kernel_rfl)
  (of_decide_eq_true (by kernel_rfl)) (by unfold Func.isWrapper;first|(rw[if_pos (by decide+kernel)];kernel_rfl)|(rw[if_neg (by decide+kernel)];exact⟨rfl,rfl⟩))
  (fun os started H enc _=>lifted os started H enc)
theorem proved:Rows.TopEditsAgreeSaid:=over
end Go.Proofs.YtbhfgadikmfjdaaGreat.editsAgree
