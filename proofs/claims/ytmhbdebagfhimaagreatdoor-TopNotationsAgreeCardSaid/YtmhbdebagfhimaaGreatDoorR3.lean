/-
  The plain machine, that it is sound, and walks: part 3 (joined and shortened by a program of the prover's).
-/
import Derived.Test.YtmhbdebagfhimaaGreatDoorR2
import Derived.RangeFuncRecord
import Derived.WalkKit
import Derived.ProofKit
import Derived.OpenShut
import Derived.ChangeOld
import Derived.Below
import Derived.Carry
import Derived.Deep.Slices
import Derived.Test.YtmhbdebagfhimaaGreatDoorProg
import Derived.KernelRfl
set_option linter.unusedSimpArgs false
set_option linter.unusedVariables false
set_option linter.unusedSectionVars false
namespace Go.Proofs.YtmhbdebagfhimaaGreatDoor.Am
open Go.RowKit
theorem Y5.mono{m a:Nat}{w w':World}(h:Y5 m w w')(hm:a≤m):Y5 a w w':=⟨h.os,h.tape,h.output,h.size,h.cells,fun b hb=>h.low b j4⟩
def KD(w w':World):Prop:=∀k:Nat,w.heap[k]?=some (.deferred (some []))→w'.heap[k]?=some (.deferred (some []))
theorem KD.refl(w:World):KD w w:=fun _ h=>h
theorem KD.trans{a b c:World}(h:KD a b)(k:KD b c):KD a c:=fun i x=>k i (h i x)
theorem KD.bl{B:Nat}{w w':World}(b:Bl B w w'):KD w w':=fun k h=>b.same k _ h rfl
theorem KD.put{l:Nat}{w:World}{r:Loop}{o:Obj}(h:w.heap[l]?=some (.loop r)):KD w (w.putObj l o):=fun k a=>(b5p fun e=>by subst e;rw[h]at a;cases a).trans a
theorem a0p.kd{m:Nat}{a:List Deferred}{w w':World}(h:a0p m a w)(k:KD w w'):a0p m a w':=by obtain⟨Ds,h1,d,b⟩:=h;exact⟨Ds,h1,d,fun D c=>⟨(b D c).1,k D (b D c).2⟩⟩
section
variable{P:Program}{B:Nat}{Z0:Nat→Prop}{vs:List Nat}{N:Nat}{G:Gh}{h:Heap}{w:World}
theorem c1D(k:vs.Nodup):∀(ps:List Tmp) (b:List Value) (args vars:List PV) (a:Act),args.length=ps.length→b.length=args.length→(∀(i:Nat) c,args[i]?=some c→∃u,b[i]?=some u∧j9 G h w D u c)→
 (∀t∈ps,t<a.tmps.size)→V9 G h w vs vars a→
 V9 G h w vs (a6G vars (ps.map fun t=>vs.idxOf? t) args) {a with tmps:=(ps.zip b).foldl (fun t x=>t.setIfInBounds x.1 x.2) a.tmps}∧((ps.zip b).foldl (fun t x=>t.setIfInBounds x.1 x.2) a.tmps).size=a.tmps.size
 | [],b,args,vars,a,h1,d,e,f,g=>by
  have:args=[]:=List.eq_nil_of_length_eq_zero h1;subst this;exact⟨g,rfl⟩
 |p::ps,[],args,vars,a,h1,d,e,f,g=>by simp at h1 d;omega
 |p::ps,v::b,[],vars,a,h1,d,e,f,g=>by simp at h1
 |p::ps,v::b,c::args,vars,a,h1,d,e,f,g=>by obtain⟨u,g1,g2⟩:=e 0 c rfl;simp at g1;subst g1;have hp:=V9.put (Ext.refl (G:=G) (h:=h) (w:=w)) k g (dst:=some p) (v:=v) (p:=c) (fun t j=>by cases j;exact f _ a3x) g2;have:=c1D k ps b args (I8 vars (vs.idxOf? p) c) (a.put (some p) v) (by simpa using h1) (by simpa using d) (fun i c l=>by simpa using e (i+1) c (by simpa using l)) (fun t j=>by rw[a8Q];exact f t (a4i _ j)) hp;rw[a8Q]at this;exact this
def stc:Option O4→LoopState×Option Code
 |none=>(.ready,none)
 |some .ret=>(.done,some .ret)
 |some (.exit id)=>(.done,some (.exit id))
 |some .normal=>(.done,some .skip)
theorem b8n(p:Option O4):(stc p).2.isNone=p.isNone∧(if(stc p).2.isNone then LoopState.ready else LoopState.done)=(stc p).1∧(stc p).1≠ .busy:=by
 rcases p with _|e
 . exact⟨rfl,rfl,by simp[stc]⟩
 . cases e<;>exact⟨rfl,rfl,by simp[stc]⟩
theorem c3m{f:FuncId}{b args:Array Value}(a:a1q P f=true):(invoke (.fn (.func f) b) args).run P w=.ok (.enter f (args++b)) w:=by
 unfold a1q at a;split at a
 . rename_i fn d;simp only[E7,a6Y]at a;obtain⟨h1,c⟩:=a;have g:¬fn.body=none:=fun e=>(by rw[e]at c;cases c);have h:¬fn.name= "runtime.NumGoroutine" :=(by simpa using h1);simp[invoke,callFunc,d,g,h]
 . cases a
def c1T{B:Nat}(W0:M8 B)(c:PV)(G1:Gh)(h1:Heap)(w1:World)(l:Nat)(d:W0.m≤w1.heap.size)(e:l<w1.heap.size)(st:Loop):M8 B:=
 ⟨w1.heap.size,fun _ G' h' w'=>Ext G1 h1 w1 G' h' w'∧W0.psi c G' h' w'∧w'.heap[l]?=some (.loop st)∧KD w1 w'∧w1.heap.size≤w'.heap.size,fun h=>h.2.2.2.2,
  fun h x b=>⟨h.1.trans x,W0.step h.2.1 x b,b.same _ _ h.2.2.1 rfl,h.2.2.2.1.trans (KD.bl b),U3 h.2.2.2.2 b.size⟩,
  fun r h s=>⟨h.1.trans (r.cells (by rw[s.size];exact p7 _) s.cells).2,W0.shut r h.2.1 (s.mono d),(s.low _ e).trans h.2.2.1,
   fun k a=>(s.low k (a1U.1 a).1).trans (h.2.2.2.1 k a),by rw[s.size];exact h.2.2.2.2⟩⟩
def a3D{B:Nat}(W0:M8 B)(a:PV)(G:Gh)(h:Heap)(W1:World)(l:Nat)(rec:LoopState→Option Code→Loop):Option O4→Gh→Heap→World→Prop:=fun p G' h' w'=>
 Ext G h W1 G' h' w'∧W0.psi a G' h' w'∧w'.heap[l]?=some (.loop (rec (stc p).1 (stc p).2))∧KD W1 w'
theorem c9h(hm:P.follows .mixedOrders=true)(H:vs.Nodup){ps:Array Tmp}{a b:Code}{k w S:Nat}{x y:C6}(af:E4 P vs N k a=some (I0 x,w))(hb:E4 P vs N w b=some (I0 y,S))(ag:Z4 a=true)(ah:Z4 b=true)(ai:ps.all (Nat.blt · N)=true)
 {W0:M8 B} {vars:List PV} {act:Act} (i3:act.tmps.size=N) {W1:World} {l:Nat} (aj:W0.m≤l) {fn:FuncId} {ak:Nat} {rec:LoopState→Option Code→Loop} (z:rec=fun st al=>{state:=st,pending:=al,fn,tmps:=act.tmps,params:=ps,assign:=a,body:=b,defers:=ak}) (am:V9 G h W1 vs vars act)
 {args:List PV} {h1:Heap} {A:Option O4→Heap→Prop} (hlen:args.length=(ps.toList.map fun t=>vs.idxOf? t).length) (an:F8 (fns P) x (a9l fun ao T=>F8 (fns P) y (fun e _ C=>A (a9k e) C) ao T) (a6G vars (ps.toList.map fun t=>vs.idxOf? t) args) h1)
 {G1:Gh} {w1:World} {d:Array Value} (r1:s6 B Z0 G1 h1 w1) (ap:a3D W0 (W3 vs vars) G h W1 l rec none G1 h1 w1) (I:J4 (j9 G1 h1 w1 D) d args) (n:Nat):YieldAt (fz none) n P l d w1 (ItR B Z0 (a3D W0 (W3 vs vars) G h W1 l rec) A G1 h1 w1):=by
 obtain⟨U,aq,J,p4⟩:=ap;have V:args.length=ps.toList.length:=by simpa using hlen
 have K:=run_yield (P:=P) (args:=d) J (by rw[z];have:=I.1;simp[stc];simp at V;omega);rw[z]at K;simp only[stc]at K;refine⟨fn,_,a,b,K,roundIn_of_wpIn (F:=fz none) trivial ?_⟩;show a.wpIn (fz (some l)) n P _ _ w1;have ar:∀t∈ps.toList,t<N:=fun t L=>by have:=Array.all_eq_true'.1 ai t (by simpa using L);simpa[a1J]using this
 have v0:V9 G1 h1 w1 vs vars {tmps:=act.tmps,defers:=[]}:=fun k s f=>by obtain⟨v,g,j⟩:=am k s f;exact⟨v,g,j.ext U⟩
 obtain⟨v1,v2⟩:=c1D H ps.toList d.toList args vars {tmps:=act.tmps,defers:=[]} V (by simpa using I.1) (fun i c au=>by obtain⟨u,g,j⟩:=I.2 i c au;exact⟨u,by simpa using g,j⟩) (fun t L=>by have:=ar t L;rw[←i3]at this;exact this) v0
 have av:((ps.zip d).foldl (fun tmps x=>match x with|(t,a)=>tmps.setIfInBounds t a) act.tmps)=(ps.toList.zip d.toList).foldl (fun t x=>t.setIfInBounds x.1 x.2) act.tmps:=by rw[←Array.foldl_toList,Array.toList_zip]
 rw[av];have W:l<w1.heap.size:=(a1U.1 J).1;have X:W0.m≤w1.heap.size:=j4;have aC:∀{w1:World} {r:Loop} (o:Loop),w1.heap[l]?=some (.loop r)→Y5 W0.m w1 (w1.putObj l (.loop o)):=fun o h=>Y5.put h rfl aj;refine b3h (W0:=c1T W0 (W3 vs vars) G1 h1 w1 l X W (rec .ready none)) (FN:=fns P) (ρ:=some l) hm H rfl rfl a6l a ag k w x af _ _ _ _ _ _ an ⟨G1,r1,v1,by rw[v2];exact i3,a0p.nil,Ext.refl,aq,J,KD.refl _,p7 _⟩ ?_;intro e aD T a2 w2 aw he;cases e with
 |exit id=>exact he.elim
 |ret=>exact he.elim
 |normal=>
  obtain⟨G2,s1,s2,ax,ay,t1,t2,t3,t4,t5⟩:=aw;refine⟨_,run_beginRound t3 (by rw[z]),?_⟩;show b.wpIn (fz (some l)) n P _ a2 _;obtain⟨q,M⟩:∃q,w2.putObj l (.loop {rec .ready none with state:=.busy})=q:=⟨_,rfl⟩
  have hs:Y5 W0.m w2 q:=by grind
  have Y:KD w2 q:=by rw[←M];exact KD.put t3
  obtain⟨c1,Z⟩:=s1.cells (w':=q) (by rw[hs.size];exact p7 _) hs.cells;rw[M];refine b3h (W0:=c1T W0 (W3 vs vars) G1 h1 w1 l X W {rec .ready none with state:=.busy}) (FN:=fns P) (ρ:=some l) hm H rfl rfl a6l b ah w S y hb _ _ _ _ _ _ he ⟨G2,c1,fun k s f=>by obtain⟨v,g,j⟩:=s2 k s f;exact⟨v,g,j.ext Z⟩,ax,ay.kd Y,t1.trans Z,W0.shut s1 t2 hs,by rw[←M];exact World.putObj_heap_same (a1U.1 t3).1,t4.trans Y,by rw[hs.size];exact t5⟩ ?_
  intro e aE C a3 w3 az O;obtain⟨G3,aa,aF,aG,aH,ab,aA,Q,ac,aB⟩:=az;have fin:∀p,A p C→∃v w',(Instr.endRound l (stc p).2).run P w3=.ok v w'∧ItR B Z0 (a3D W0 (W3 vs vars) G h W1 l rec) A G1 h1 w1 (.returned v) w':=fun p f=>by
   obtain⟨f1,f2,f3⟩:=b8n p;have hr:=run_endRound (P:=P) (stc p).2 Q;obtain⟨w4,R⟩:∃w4,w3.putObj l (.loop (rec (stc p).1 (stc p).2))=w4:=⟨_,rfl⟩
   have E:Y5 W0.m w3 w4:=(by grind);have ad:KD w3 w4:=(by rw[←R];exact KD.put Q);obtain⟨d1,ae⟩:=aa.cells (w':=w4) (by rw[E.size];exact p7 _) E.cells;refine⟨_,w4,by rw[hr,←R,f2,z],p,C,G3,by rw[f1],f,d1,ab.trans ae,?_,by rw[E.size];exact aB,fun m aI hd=>hd.kd (ac.trans ad)⟩;exact⟨U.trans (ab.trans ae),W0.shut aa aA E,by rw[←R];exact World.putObj_heap_same (a1U.1 Q).1,p4.trans (ac.trans ad)⟩
  cases e with
  |normal=>exact fin none O
  |ret=>exact fin (some .ret) O
  |exit id=>exact fin (some (.exit id)) O
theorem b7y(hm:P.follows .mixedOrders=true)(Z:vs.Nodup){g:Operand}{ps:Array Tmp}{a b:Code}{k U aa:Nat}{x y:C6}{gd:A6}(ab:E4 P vs N k a=some (I0 x,U))(hb:E4 P vs N U b=some (I0 y,aa))(ac:a0l vs [] 0 g=some gd)(ad:Z4 a=true)(ae:Z4 b=true)(af:ps.all (Nat.blt · N)=true)
 {W0:M8 B} {nn:Nat} {Q':J0} {Q:Exit→Act→World→Prop} {vars:List PV} {act:Act} (m:F8 (fns P) (.rfor gd (ps.toList.map fun t=>vs.idxOf? t) x y) Q' vars h) (hi:N5 B Z0 W0 vs N vars h act w) (o:b0G B Z0 W0 vs N Q' Q):(Code.rangeFunc g ps a b).wpIn (fz none) nn P Q act w:=by
 obtain⟨G,H,i2,i3,i4,i5⟩:=hi;simp only[F8]at m;obtain⟨f,cap,ag,ah,ai,hit⟩:=(show IT P _ _ _ _ from m)
 have d:=b1R ac i2;rw[ag]at d;unfold D at d;unfold j9 at d;obtain⟨aj,r,d,ak,al⟩:=d;have am:aj= #[]:=b2b (by simpa using ak.1);subst am;refine wpIn_rangeFunc fun fn aJ=>?_;obtain⟨rec,z⟩:∃rec:LoopState→Option Code→Loop,rec=fun st an=>{state:=st,pending:=an,fn,tmps:=act.tmps,params:=ps,assign:=a,body:=b,defers:=w.heap.size}:=⟨_,rfl⟩
 obtain⟨W1,i⟩:∃W1,(w.alloc (.deferred (some []))).alloc (.loop (rec .ready none))=W1:=⟨_,rfl⟩
 have V:W1.heap[w.heap.size+1]?=some (.loop (rec .ready none)):=by rw[←i];have:=World.alloc_heap_new (w.alloc (.deferred (some []))) (.loop (rec .ready none));rwa[World.size_alloc]at this
 have ao:W1.heap[w.heap.size]?=some (.deferred (some [])):=by rw[←i];exact(Below.heap_alloc _ _ _ k8).trans (World.alloc_heap_new w _)
 have aK:W1.heap.size=w.heap.size+2:=by rw[←i];simp
 have I:Bl B w W1:=by rw[←i];exact((Bl.refl B w).alloc H.base _).alloc (by have:=H.base;simp;omega) _
 have ap:∀b,U8 w b→W1.heap[b]?=w.heap[b]?:=fun b hb=>by rw[←i];exact(Below.heap_alloc _ _ _ (by have:=hb.lt;simp;omega)).trans (Below.heap_alloc _ _ _ hb.lt)
 obtain⟨aq,A⟩:=H.cells (w':=W1) I.size ap;have ar:=W0.step i5 A I;have au:=W0.ms i5;obtain⟨l,W⟩:∃l,w.heap.size+1=l:=⟨_,rfl⟩
 rw[W]at V;have av:∀{p:Option O4} {G2:Gh} {c:Heap} {w2:World} {G':Gh} {h':Heap} {w':World},a3D W0 (W3 vs vars) G h W1 l rec p G2 c w2→Ext G2 c w2 G' h' w'→Bl B w2 w'→a3D W0 (W3 vs vars) G h W1 l rec p G' h' w':=by intro p G2 c w2 G' h' w' hp m J;exact⟨hp.1.trans m,W0.step hp.2.1 m J,J.same _ _ hp.2.2.1 rfl,hp.2.2.2.trans (KD.bl J)⟩
 have aw:∀{Z1:Nat→Prop} {p:Option O4} {G2:Gh} {c:Heap} {w1 w2:World},s6 B Z1 G2 c w1→a3D W0 (W3 vs vars) G h W1 l rec p G2 c w1→Y5 W1.heap.size w1 w2→a3D W0 (W3 vs vars) G h W1 l rec p G2 c w2:=by intro Z1 p G2 c w1 w2 hr hp hs;exact⟨hp.1.trans (hr.cells (by rw[hs.size];exact p7 _) hs.cells).2,W0.shut hr hp.2.1 (hs.mono j4),(hs.low _ j4).trans hp.2.2.1,fun k j=>(hs.low k (a1U.1 j).1).trans (hp.2.2.2 k j)⟩
 have hΨ0:a3D W0 (W3 vs vars) G h W1 l rec none G h W1:=⟨Ext.refl,ar,V,KD.refl _⟩
 have ax:V9 G h W1 vs vars act:=fun k s j=>by obtain⟨v,K,L⟩:=i2 k s j;exact⟨v,K,L.ext A⟩
 have ay:J4 (j9 G h W1 D) r cap:=(a6Z al ai).mono fun _ _ q=>q.ext A;have az:∀{args:List PV} {h1:Heap} {M:Option O4→Heap→Prop},(args.length=(ps.toList.map fun t=>vs.idxOf? t).length∧F8 (fns P) x (a9l fun aA c=>F8 (fns P) y (fun e _ aB=>M (a9k e) aB) aA c) (a6G vars (ps.toList.map fun t=>vs.idxOf? t) args) h1)→
  ∀{G1:Gh} {w1:World} {O:Array Value},s6 B Z0 G1 h1 w1→a3D W0 (W3 vs vars) G h W1 l rec none G1 h1 w1→J4 (j9 G1 h1 w1 D) O args→∀n,YieldAt (fz none) n P l O w1 (ItR B Z0 (a3D W0 (W3 vs vars) G h W1 l rec) M G1 h1 w1):=by
  intro args h1 M X G1 w1 O r1 aC aD n;exact c9h hm Z ab hb ad ae af i3 j4 z ax X.1 X.2 r1 aC aD n
 have aE:=hit B Z0 G W1 r l (a3D W0 (W3 vs vars) G h W1 l rec) aq ay av aw az hΨ0;refine⟨l,[{target:=.collected w.heap.size,args:= #[]}],W1,{target:=.fn (.func f) r,args:= #[.func (.yield l) #[] #[]]},W1,f,#[.func (.yield l) #[] #[]]++r,W1,?_,?_,fun _ _=>trivial,?_,fun e=>(by cases e),?_⟩
 . rw[←i,z,←W];exact run_enterLoop_outer _ _ _ _ _
 . simp only[resolve,d];simp[go_sem]
 . exact c3m ah
 refine a3V.2 (Calls.mono aE ?_);rintro e w' ⟨u,p,h',G',rfl,C,r1,aL,aF,aG,R,p4⟩;have aH:=run_endLoop (P:=P) R (by rw[z];exact(b8n p).2.2);obtain⟨w4,S⟩:∃w4,w'.putObj l (.loop {rec (stc p).1 (stc p).2 with state:=.exhausted})=w4:=⟨_,rfl⟩
 have T:Y5 W0.m w' w4:=by rw[←S];exact Y5.put R rfl j4
 have Y:KD w' w4:=by rw[←S];exact KD.put R
 obtain⟨d1,aI⟩:=r1.cells (w':=w4) (by rw[T.size];exact p7 _) T.cells;have E:N5 B Z0 W0 vs N vars h' {act with defers:=[{target:=.collected w.heap.size,args:= #[]}]++act.defers} w4:=by
  refine⟨G',d1,fun k s j=>?_,i3,?_,W0.shut r1 aG T⟩
  . obtain⟨v,K,L⟩:=i2 k s j;exact⟨v,K,((L.ext A).ext aF).ext aI⟩
  . obtain⟨Ds,m1,m2,m3⟩:=i4;refine⟨w.heap.size::Ds,a4K.2 ⟨fun hm=>?_,m1⟩,by simp[m2],fun D' F=>?_⟩
    . grind
    . rcases Y8.1 F with rfl|F
      . exact⟨au,Y _ (p4 _ ao)⟩
      . exact⟨(m3 D' F).1,Y _ (p4 _ (KD.bl I _ (m3 D' F).2))⟩
 refine⟨_,w4,by rw[aH,S],?_⟩;rw[z];rcases p with _|e
 . exact o .normal _ _ _ _ E C
 . cases e with
   |normal=>exact wpIn_skip (o .normal _ _ _ _ E C)
   |ret=>exact wpIn_ret (o .ret _ _ _ _ E C)
   |exit id=>exact wpIn_exit (o (.exit id) _ _ _ _ E C)
theorem c1X:∀{c:Code} {k f:Nat} {x:C6},E4 P vs N k c=some (x,f)→I0 x=x:=by
 intro c
 induction c with
 |region id ops d=>
  intro k f x e;simp only[E4]at e;split at e
  . cases e;rfl
  . cases e
 |seq a b h i=>
  intro k f x e;simp only[E4]at e;split at e
  . rename_i h1;split at e
    . rename_i j;cases e;simp only[I0,h h1,i j]
    . cases e
  . cases e
 |cond m a b h i=>
  intro k f x e;simp only[E4]at e;split at e
  . rename_i h1;split at e
    . rename_i j;split at e
      . cases e;simp only[I0,h h1,i j]
      . cases e
    . cases e
  . cases e
 |block id b l=>
  intro k f x e;simp only[E4]at e;split at e
  . rename_i h1;cases e;simp only[I0,l h1]
  . cases e
 |loop b l=>
  intro k f x e;simp only[E4]at e;split at e
  . rename_i h1;cases e;simp only[I0,l h1]
  . cases e
 |scope b l=>intro k f x e;exact l (show E4 P vs N k b=_ from e)
 |rangeFunc g ps a b h i=>
  intro k f x e;simp only[E4]at e;split at e
  . rename_i h1;split at e
    . rename_i j;split at e
      . split at e
        . cases e;simp only[I0,h h1,i j]
        . cases e
      . cases e
    . cases e
  . cases e
 |skip=>intro k f x e;simp only[E4,s5,s9]at e;obtain⟨rfl,_⟩:=e;rfl
 |label=>intro k f x e;simp only[E4,s5,s9]at e;obtain⟨rfl,_⟩:=e;rfl
 |exit=>intro k f x e;simp only[E4,s5,s9]at e;obtain⟨rfl,_⟩:=e;rfl
 |ret=>intro k f x e;simp only[E4,s5,s9]at e;obtain⟨rfl,_⟩:=e;rfl
 |_=>intro k f x e;simp only[E4]at e;cases e
theorem b5J{W0:M8 B}{nn:Nat}(hm:P.follows .mixedOrders=true)(u:vs.Nodup):∀(c:Code) (k o:Nat) (x:C6),E4 P vs N k c=some (x,o)→∀(Q':J0) (Q:Exit→Act→World→Prop) (vars:List PV) (h:Heap) (a:Act) (w:World),
 F8 (fns P) x Q' vars h→N5 B Z0 W0 vs N vars h a w→b0G B Z0 W0 vs N Q' Q→c.wpIn (fz none) nn P Q a w:=by
 intro c
 induction c with
 |skip=>
  intro k o x f Q' Q vars h a w j hi m;simp only[E4,s5,s9]at f;obtain⟨rfl,rfl⟩:=f;exact wpIn_skip (m .normal _ _ _ _ hi j)
 |label l=>
  intro k o x f Q' Q vars h a w j hi m;simp only[E4,s5,s9]at f;obtain⟨rfl,rfl⟩:=f;exact wpIn_label (m .normal _ _ _ _ hi j)
 |exit id=>
  intro k o x f Q' Q vars h a w j hi m;simp only[E4,s5,s9]at f;obtain⟨rfl,rfl⟩:=f;exact wpIn_exit (m (.exit id) _ _ _ _ hi j)
 |ret=>
  intro k o x f Q' Q vars h a w j hi m;simp only[E4,s5,s9]at f;obtain⟨rfl,rfl⟩:=f;exact wpIn_ret (m .ret _ _ _ _ hi j)
 |region id ops d=>
  intro k o x f Q' Q vars h a w j hi m;simp only[E4]at f;split at f
  . rename_i xs q A;cases f;obtain⟨C,j⟩:=j;rw[show ops=ops.toList.toArray by simp];cases d with
    |false=>exact b3E rfl rfl a6l u A C j (fun st a w hi v=>m .normal _ _ _ _ hi v) hi
    |true=>exact b4I hm rfl rfl a6l u A C j (fun st a w hi v=>m .normal _ _ _ _ hi v) hi
  . cases f
 |seq c1 c2 y z=>
  intro k o x f Q' Q vars h a w j hi m;simp only[E4]at f;split at f
  . rename_i s q h1;split at f
    . rename_i D E p;cases f;refine wpIn_seq (y _ _ _ h1 _ _ _ _ _ _ j hi fun e vars h a w hi he=>?_);cases e with
      |normal=>exact z _ _ _ p _ _ _ _ _ _ he hi m
      |exit id=>exact m (.exit id) _ _ _ _ hi he
      |ret=>exact m .ret _ _ _ _ hi he
    . cases f
  . cases f
 |cond J c1 c2 y z=>
  intro k o x f Q' Q vars h a w j hi m;simp only[E4]at f;split at f
  . rename_i s q h1;split at f
    . rename_i D E p;split at f
      . rename_i dd F;cases f;obtain⟨G,K,i2,i3⟩:=id hi;have hr:=b1R F i2;simp only[F8]at j;split at j
        . rename_i he;rw[he]at hr;exact wpIn_cond_true (a0X hr) (y _ _ _ h1 _ _ _ _ _ _ j hi m)
        . rename_i he;rw[he]at hr;exact wpIn_cond_false (a0X hr) (z _ _ _ p _ _ _ _ _ _ j hi m)
        . exact j.elim
      . cases f
    . cases f
  . cases f
 |block id c r=>
  intro k o x f Q' Q vars h a w j hi m;simp only[E4]at f;split at f
  . rename_i s q h1;cases f;refine wpIn_block (r _ _ _ h1 _ _ _ _ _ _ j hi fun e vars h a w hi he=>?_);cases e with
    |normal=>exact m .normal _ _ _ _ hi he
    |exit i=>
     simp only[xin]at he;show Exit.inBlock id Q (.exit i) a w;simp only[Exit.inBlock];split at he
     . rename_i e;rw[if_pos e];exact m .normal _ _ _ _ hi he
     . rename_i e;rw[if_neg e];exact m (.exit i) _ _ _ _ hi he
    |ret=>exact m .ret _ _ _ _ hi he
  . cases f
 |loop c r=>
  intro k o x f Q' Q vars h a w j hi m;simp only[E4]at f;split at f
  . rename_i s q h1;cases f;obtain⟨n,j⟩:=j;refine wpIn_loop_rounds n ?_
    induction n generalizing vars h a w with
    |zero=>exact j.elim
    |succ n H=>
     refine r _ _ _ h1 _ _ _ _ _ _ j hi fun e vars h a w hi he=>?_;cases e with
     |normal=>exact H _ _ _ _ hi he
     |exit id=>exact m (.exit id) _ _ _ _ hi he
     |ret=>exact m .ret _ _ _ _ hi he
  . cases f
 |scope c r=>
  intro k o x f Q' Q vars h a w j hi m;simp only[E4]at f;refine b3u (r _ _ _ f _ _ _ _ _ _ j hi fun e vars h a w hi he=>?_);cases e with
  |normal=>exact m .normal _ _ _ _ hi he
  |exit id=>exact m (.exit id) _ _ _ _ hi he
  |ret=>exact m .ret _ _ _ _ hi he
 |rangeFunc g ps a b L M=>
  intro k o x f Q' Q vars h act w j hi m;simp only[E4]at f;split at f
  . rename_i s q h1;split at f
    . rename_i D E p;split at f
      . rename_i gd I;split at f
        . rename_i t;cases f;simp only[E7]at t;exact b7y hm u (by rw[c1X h1];exact h1) (by rw[c1X p];exact p) I t.1.1 t.1.2 t.2 j hi m
        . cases f
      . cases f
    . cases f
  . cases f
 |_=>
  intro k o x f;simp only[E4]at f;cases f
end
theorem a9c{x:PV}(h:∀cs,x≠ .agg cs):l6 x=[x]:=by cases x<;>first|rfl|exact absurd rfl (h _)
theorem c7Y{x:PV}(h:∀cs,x≠ .tup cs):U2 x=[x]:=by cases x<;>first|rfl|exact absurd rfl (h _)
theorem a8b(lk:D8)(c:PV):(∀cs,rvC lk c≠ .agg cs)∧∀cs,rvC lk c≠ .tup cs:=by
 cases c<;>simp only[rvC]<;>(try (refine⟨fun cs e=>?_,fun cs e=>?_⟩<;>cases e;done))
 . grind
 . grind
theorem a9A(lk:D8)(c:PV):(∃cs,c=.agg cs)∨((∀cs,c≠ .agg cs)∧rvE lk c=rvC lk c):=by
 cases c
 case agg cs=>exact .inl ⟨cs,rfl⟩
 all_goals exact .inr (And.intro (fun cs e=>absurd e k8) rfl)
theorem b5A(lk:D8)(q:PV):B4 (rvV lk q)=(B4 q).map (rvC lk):=by
 have h1:∀c,l6 (rvE lk c)=(l6 c).map (rvC lk):=fun c=>by
  rcases a9A lk c with⟨cs,rfl⟩|⟨h,e⟩
  . rfl
  . rw[e,a9c (a8b lk c).1,a9c h];rfl
 have a:∀c,U2 (rvE lk c)=[rvE lk c]:=fun c=>by
  rcases a9A lk c with⟨cs,rfl⟩|⟨h,e⟩
  . rfl
  . rw[e,c7Y (a8b lk c).2]
 unfold B4;cases q<;>simp only[rvV]
 case tup vs=>simp only[U2,List.flatMap_map,List.map_flatMap,h1]
 all_goals
  rw[a];simp only[U2,a2Z,List.flatMap_nil,a1v,h1]
section
variable{P:Program}{B:Nat}{Z0:Nat→Prop}{G G':Gh}{h h':Heap}{w w':World}
def a0a(cells:List PV)(lk:D8)(p:Nat):Option Nat:=match cells[p]? with
 |some (.own k g a s o l)=>(match rvC lk (.own k g a s o l)with
  | .uslc _=>some k
  |_=>none)
 |_=>none
def Gh.out(G:Gh)(a:Nat→Option Nat):Gh:=
 {β:=fun key=>match a key.1 with|some k=>G.β (k,key.2)|none=>0
  R:=fun key=>match a key.1 with|some k=>G.R (k,key.2)|none=>False
  γ:=fun key=>match a key.1 with|some k=>G.γ (k,key.2)|none=>0
  σ:=fun key=>match a key.1 with|some k=>G.σ (k,key.2)|none=>0
  Z:=G.Z}
theorem b7n{lk:D8}{c:PV}{es:List PV}(h:rvC lk c=.uslc es):∃k g s ver a l,c=.own k g a.length s 0 l∧l≤a.length∧es=a.take l∧lk k=(g,.arr s ver false a)∧a.all D9=true:=by
 cases c<;>simp only[rvC]at h<;>(try (cases h;done))
 case mapv k g=>
  split at h
  . split at h<;>cases h
  . cases h
 case own k g d s o l=>
  split at h
  . rename_i e s' ver fr es' f;split at h
    . rename_i b;obtain⟨rfl,rfl,rfl,rfl,i,j⟩:=b;split at h
      . grind
      . grind
    . cases h
  . cases h
theorem b9j:∀{cells:List PV},(cells.filterMap fun c=>match c with| .own k _ _ _ _ _=>some k|_=>none).Nodup→∀{i j k g a s o l d e s' o' f:Nat},cells[i]?=some (.own k g a s o l)→cells[j]?=some (.own k d e s' o' f)→i=j
 | [],_,i,j,_,_,_,_,_,_,_,_,_,_,_,hi,_=>by simp at hi
 |c::cells,b,i,j,k,g,a,s,o,l,d,e,s',o',f,hi,hj=>by
  have h:∀{m g a s o l:Nat},cells[m]?=some (.own k g a s o l)→k∈cells.filterMap fun c=>match c with| .own k _ _ _ _ _=>some k|_=>none:=fun hm=>a9J.2 ⟨_,D0 hm,rfl⟩
  have tail:(cells.filterMap fun c=>match c with| .own k _ _ _ _ _=>some k|_=>none).Nodup:=by grind
  cases i with
  |zero=>
   cases j with
   |zero=>rfl
   |succ j=>
    exfalso;simp at hi;subst hi;simp only[List.filterMap_cons]at b;exact(a4K.1 b).1 (h (by simpa using hj))
  |succ i=>
   cases j with
   |zero=>
    exfalso;simp at hj;subst hj;simp only[List.filterMap_cons]at b;exact(a4K.1 b).1 (h (by simpa using hi))
   |succ j=>
    have:=b9j tail (show cells[i]?=some _ by simpa using hi) (show cells[j]?=some _ by simpa using hj);omega
theorem b4T{szs:List Nat}:∀{cells:List PV} {q:Nat},a3p szs q cells=true→∀{i k g a s o l:Nat},cells[i]?=some (.own k g a s o l)→szs.getD (q+i) 0=s
 | [],_,_,i,_,_,_,_,_,_,hi=>by simp at hi
 |c::cells,q,h,i,k,g,a,s,o,l,hi=>by
  have tail:a3p szs (q+1) cells=true:=by cases c<;>simp only[a3p,E7]at h<;>first|exact h|exact h.2
  cases i with
  |zero=>
   simp at hi;subst hi;simp only[a3p,E7,beq_iff_eq]at h;exact h.1
  |succ i=>
   have:=b4T tail (i:=i) (by simpa using hi);rw[←this,show q+(i+1)=q+1+i by omega]
theorem c8b(hr:s6 B Z0 G h w){q:PV}{szs:List Nat}(aj:a2u (a7l q)=true)(Y:a3p szs 0 (B4 q)=true):
 s6 B Z0 (G.out (a0a (B4 q) (l7 h []))) (X2 szs (rvV (l7 h []) q)) w∧
 ∀{n:Nat} {u:Value} {p:Nat} {c:PV},(B4 q)[p]?=some c→j9 G h w n u c→j9 (G.out (a0a (B4 q) (l7 h []))) (X2 szs (rvV (l7 h []) q)) w n u (M5 (a0Y szs p) (fun _=>1) (rvC (l7 h []) c)):=by
 have ak:=a4V aj;have R:∀{p k},a0a (B4 q) (l7 h []) p=some k→∃g s ver es l,(B4 q)[p]?=some (.own k g es.length s 0 l)∧l≤es.length∧rvC (l7 h []) (.own k g es.length s 0 l)=.uslc (es.take l)∧h[k]?=some (g,.arr s ver false es)∧es.all D9=true:=fun{p k} hj=>by
  unfold a0a at hj;split at hj
  . rename_i aS g J s o l d;split at hj
    . rename_i es he;cases hj;obtain⟨al,g2,s2,ver,Z,O,h1,am,an,K,ao⟩:=b7n he;cases h1;exact⟨_,_,ver,Z,l,d,am,by rw[he,an],P6 K k8,ao⟩
    . cases hj
  . cases hj
 have aT:∀{p es},(B4 (rvV (l7 h []) q))[p]?=some (.uslc es)→∃k,a0a (B4 q) (l7 h []) p=some k:=fun{p es} hp=>by rw[b5A,H6]at hp;obtain⟨c,d,he⟩:=C9.1 hp;obtain⟨k,g,s,ver,Z,O,rfl,_⟩:=b7n he;refine⟨k,?_⟩;unfold a0a;rw[d];simp only;rw[he]
 have ap:∀{p k},a0a (B4 q) (l7 h []) p=some k→∀{es g J s l},(B4 q)[p]?=some (.own k g J s 0 l)→rvC (l7 h []) (.own k g J s 0 l)=.uslc es→(X2 szs (rvV (l7 h []) q))[p]?=some (1,.arr s 0 false es):=fun{p k} hj {es g J s l} d he=>by have:=a8Z (szs:=szs) (r:=rvV (l7 h []) q) (p:=p) (es:=es) (by rw[b5A,H6,d];simp[he]);rw[this];have:=b4T Y d;rw[V5]at this;rw[this]
 have A:∀{p k y},a0a (B4 q) (l7 h []) p=some k→(G.out (a0a (B4 q) (l7 h []))).β (p,y)=G.β (k,y)∧((G.out (a0a (B4 q) (l7 h []))).R (p,y)↔G.R (k,y))∧(G.out (a0a (B4 q) (l7 h []))).γ (p,y)=G.γ (k,y)∧(G.out (a0a (B4 q) (l7 h []))).σ (p,y)=G.σ (k,y):=fun{p k y} hj=>by refine⟨?_,?_,?_,?_⟩<;>simp only[Gh.out,hj]
 have P:∀{p y},(G.out (a0a (B4 q) (l7 h []))).R (p,y)→∃k,a0a (B4 q) (l7 h []) p=some k:=fun{p y} t=>by
  cases hj:a0a (B4 q) (l7 h []) p with
  |some k=>exact⟨k,rfl⟩
  |none=>simp only[Gh.out,hj]at t
 have aa:∀{p g o},(X2 szs (rvV (l7 h []) q))[p]?=some (g,o)→o=.dead∨∃k g0 s ver es l,a0a (B4 q) (l7 h []) p=some k∧h[k]?=some (g0,.arr s ver false es)∧es.all D9=true∧g=1∧o=.arr s 0 false (es.take l):=fun{p g o} F=>by
  rcases c2a F with rfl|⟨es,h1,rfl,K⟩
  . exact .inl rfl
  . grind
 refine⟨⟨hr.base,hr.zo,hr.zb,?_,?_,?_,?_,?_⟩,?_⟩
 . rintro⟨p,y⟩ t;obtain⟨k,C⟩:=P t;obtain⟨a1,a2,_⟩:=A (y:=y) C;rw[a1];exact hr.lv _ (a2.1 t)
 . rintro p g o F aU y t;obtain⟨k,C⟩:=P t;obtain⟨a1,a2,_⟩:=A (y:=y) C;obtain⟨g0,s,ver,es',O,Q,_,ab,S,U⟩:=R C;rw[a1];exact hr.nz k _ _ S rfl y (a2.1 t)
 . intro p g o F aq y t;rcases aa F with rfl|⟨_,_,_,_,_,_,_,_,_,_,rfl⟩<;>cases aq
 . rintro⟨aV,ar⟩ ⟨aW,au⟩ h1 K he;obtain⟨aX,ac⟩:=P h1;obtain⟨al,ad⟩:=P K;obtain⟨a1,a2,_⟩:=A (y:=ar) ac;obtain⟨ae,V,_⟩:=A (y:=au) ad;have:=hr.inj _ _ (a2.1 h1) (V.1 K) j4;simp only[s9]at this;obtain⟨rfl,rfl⟩:=this;obtain⟨g0,s,ver,es',O,Q,_⟩:=R ac;obtain⟨aY,s',ver',aZ,a0,r1,_⟩:=R ad;rw[b9j ak Q r1]
 . rintro p g o F;rcases aa F with rfl|⟨k,g0,s,ver,es,O,C,L,M,rfl,rfl⟩
   . trivial
   . have af:=hr.ob k _ _ L;unfold F7 at af⊢;obtain⟨a1,a2,a3,a4⟩:=A (y:=none) C;rw[show(G.out (a0a (B4 q) (l7 h []))).β (root p)=G.β (root k)from a1,show(G.out (a0a (B4 q) (l7 h []))).γ (root p)=G.γ (root k)from a3];obtain⟨av,aw,ax,ay,az⟩:=af;refine⟨av,U3 (by grind) aw,ax,fun t=>?_,fun t=>by rw[az fun y=>t (a2.2 y)];exact List.take_nil⟩;obtain⟨us,T,aA,aB,aC⟩:=ay (a2.1 t);refine⟨us,T,aA,aB,fun i e he=>?_⟩;have he:es[i]?=some e:=(by grind);obtain⟨aD,aE⟩:=aC i e he;refine⟨aD,fun j c d=>?_⟩;obtain⟨u,aF,z⟩:=aE j c d;refine⟨u,aF,?_⟩;have aG:(A7 c||I7 c)=true:=B5.1 (show(l6 e).all (fun c=>A7 c||I7 c)=true from B5.1 M e (D0 he)) c (D0 d);cases c
     case uslc ns=>
      unfold G9 O2 at z⊢;obtain⟨ae,V,aH,aI⟩:=A (y:=some (i,j)) C;rw[ae,V,aH,aI];exact z
     case nils=>
      unfold G9 at z⊢;obtain rfl:=a0k z.2;exact⟨rfl,a4R⟩
     all_goals
      unfold G9 at z⊢;exact⟨z.1,a1x z.1 (a4D (G:=G) (h:=h) (by simpa[I7]using aG) z.2)⟩
 . intro n u p c hp d;have H:∀{x},x=PV.uu→j9 (G.out (a0a (B4 q) (l7 h []))) (X2 szs (rvV (l7 h []) q)) w n u x:=fun e=>(by rw[e];exact K6);cases c<;>simp only[rvC]<;>(try exact H rfl)
   case bool=>simp only[M5];obtain rfl:=a0X d;exact a1o
   case int=>simp only[M5];obtain rfl:=Z2 d;exact a0J
   case str=>simp only[M5];obtain rfl:=a2O d;exact a5E
   case nils=>simp only[M5];obtain rfl:=a0k d;exact a4R
   case ne=>
    have v:=j9.cell (m:=D) (by refine⟨?_,?_,?_⟩<;>intros<;>simp) d;unfold D at v;unfold j9 at v;obtain⟨b,o,rfl⟩:=v;simp only[M5];exact a0N (PR.U1.2 ⟨some ⟨b,o,none⟩,0,0,rfl,p7 _,E0 _,fun _=>rfl,fun i e he=>by simp at he⟩)
   case lit=>simp only[M5];cases n<;>(unfold j9 at d⊢;exact d)
   case slc es=>simp only[M5];exact a0N (a3n (G:=G) (h:=h) d)
   case M6 ks vs=>simp only[M5];exact a7M (a9p (G:=G) (h:=h) d)
   case fptr cs=>simp only[M5];exact a4U (a8T (G:=G) (h:=h) d)
   case mapv k g=>
    split
    . rename_i ag ks vs I;split
      . rename_i W;obtain⟨rfl,aJ⟩:=W;simp only[M5];have v:=j9.cell (m:=D) (by refine⟨?_,?_,?_⟩<;>intros<;>simp) d;exact a7M (b8Q (G:=G) hr (P6 I k8) aJ v)
      . exact H rfl
    . exact H rfl
   case own k g J s o l=>
    split
    . rename_i ag s' ver fr es I;split
      . rename_i W;obtain⟨rfl,rfl,rfl,rfl,hle,M⟩:=W;have fin:∀N,N=es.take l→rvC (l7 h []) (.own k ag es.length s' 0 l)=.uslc N→fr=false→j9 (G.out (a0a (B4 q) (l7 h []))) (X2 szs (rvV (l7 h []) q)) w n u (M5 (a0Y szs p) (fun _=>1) (.uslc N)):=fun N aK ah E=>by
         subst E;have ai:N.length=l:=(by rw[aK,a1V];omega);have hj:a0a (B4 q) (l7 h []) p=some k:=by unfold a0a;rw[hp];simp only;rw[ah]
         have L:=P6 I k8;have aL:=ap hj hp ah;simp only[M5];rw[show(a0Y szs p).1=p from rfl,show(a0Y szs p).2=s' from by have:=b4T Y hp;rw[V5]at this;exact this]
         have v:=j9.cell (m:=D) (by refine⟨?_,?_,?_⟩<;>intros<;>simp) d;refine j9.cell (n:=D) (by refine⟨?_,?_,?_⟩<;>intros<;>simp) ?_;unfold D at v⊢;unfold j9 at v⊢;obtain⟨a,c,aM,Q,ab,S,gn,ob,U,a5,aN⟩:=v;refine⟨a,c,by rw[ai];exact aM,by rw[ai];exact Q,ab,S,_,_,aL,p7 _,fun _ sz vr fr es' aO=>?_⟩;cases aO;refine⟨p7 _,fun _=>?_⟩;rw[L]at U;cases U;obtain⟨_,aP⟩:=aN rfl _ _ _ _ rfl;obtain⟨a6,aQ,aR⟩:=aP rfl;obtain⟨a1,a2,a3,a4⟩:=A (y:=none) hj;rw[show(G.out (a0a (B4 q) (l7 h []))).β (root p)=G.β (root k)from a1,show(G.out (a0a (B4 q) (l7 h []))).γ (root p)=G.γ (root k)from a3];refine⟨j4,fun t=>?_,fun t=>aR fun y=>t (a2.2 y)⟩;obtain⟨f,f1,f2,f3,f4⟩:=aQ (a2.1 t);exact⟨f,f1,f2,j4,f4⟩
        split
        . rename_i X;subst X;split
          . rename_i E;subst E;simp only[M5];have L:=P6 I k8;have v:=j9.cell (m:=D) (by refine⟨?_,?_,?_⟩<;>intros<;>simp) d;exact a0N (a3n (G:=G) (h:=h) (b3P hr L M v))
          . rename_i E;obtain rfl:fr=false:=(by simpa using E);exact fin es K8.symm (by simp only[rvC,I];simp[M]) rfl
        . rename_i X;split
          . exact H rfl
          . rename_i E;obtain rfl:fr=false:=(by simpa using E);exact fin _ rfl (by simp only[rvC,I];simp[M,X,hle]) rfl
      . exact H rfl
    . exact H rfl
end
section
variable{n:Nat}{vs:List Nat}{lk:D8}{v:Value}{p r:PV}{vars l:List PV}{a:Act}{fn:Func}{rs:List (Nat×Option (Bool×Nat))}
theorem b8f(d:Nat×Nat)(gen:Nat→Nat)(c:PV):(∀cs,M5 d gen c≠ .agg cs)∧(∀cs,M5 d gen c≠ .tup cs)∧∀f a b,M5 d gen c≠ .fn f a b:=by cases c<;>simp[M5]
theorem c2u{ks:Nat→Nat×Nat}{gen:Nat→Nat}{q:Nat}{c:PV}(h:∀cs,c≠ .agg cs):a2i ks gen q c=M5 (ks q) gen c:=by cases c<;>first|rfl|exact absurd rfl (h _)
section
variable{P:Program}{B:Nat}{Z0:Nat→Prop}{G G':Gh}{h h':Heap}{w w':World}
theorem b6j{ks:Nat→Nat×Nat}{gen:Nat→Nat}{cells:List PV}(b:∀{n:Nat} {u:Value} {p:Nat} {c:PV},cells[p]?=some c→j9 G h w n u c→j9 G' h' w n u (M5 (ks p) gen (rvC lk c))){q:Nat}{c:PV}
 (d:∀(i:Nat) x,(l6 c)[i]?=some x→cells[q+i]?=some x) (a:j9 G h w n v c) (m:Nat):j9 G' h' w (m+1) v (a2i ks gen q (rvE lk c)):=by
 rcases a9A lk c with⟨cs,rfl⟩|⟨g,e⟩
 . simp only[rvE,a2i];cases n with
   |zero=>unfold j9 at a;exact a.elim
   |succ n=>
    unfold j9 at a⊢;obtain⟨vs,rfl,h1,j⟩:=a;refine⟨vs,rfl,by rw[b3H];simpa using h1,fun i x hi=>?_⟩;rw[b0I,H6]at hi;obtain⟨c1,k,rfl⟩:=C9.1 hi;obtain⟨c0,f,rfl⟩:=C9.1 k;obtain⟨u,l,o⟩:=j i c0 f;exact⟨u,l,(b (d i c0 f) o).cell (b8f _ _ _)⟩
 . rw[e,c2u (a8b lk c).1];exact(b (d 0 c (by rw[a9c g];rfl)) a).cell (b8f _ _ _)
theorem b4V{lk:D8}{ks:Nat→Nat×Nat}{gen:Nat→Nat}{cells:List PV}(b:∀{n:Nat} {u:Value} {p:Nat} {c:PV},cells[p]?=some c→j9 G h w n u c→j9 G' h' w n u (M5 (ks p) gen (rvC lk c))){n:Nat}(m:Nat):∀{vs:List PV} {q:Nat} {U:Nat→Option Value},
 (∀(i:Nat) x,(vs.flatMap l6)[i]?=some x→cells[q+i]?=some x)→(∀(i:Nat) p,vs[i]?=some p→∃u,U i=some u∧j9 G h w n u p)→∀(i:Nat) p,(a1z ks gen q (vs.map (rvE lk)))[i]?=some p→∃u,U i=some u∧j9 G' h' w (m+1) u p
 | [],q,U,_,_,i,p,hp=>by simp[a1z]at hp
 |c::vs,q,U,d,f,i,p,hp=>by
  simp only[a0s,a1z]at hp;cases i with
  |zero=>
   simp at hp;subst hp;obtain⟨u,h1,g⟩:=f 0 c rfl;refine⟨u,h1,b6j b (fun i x a=>d i x ?_) g m⟩;rw[a2Z,a1k (C0.1 a).1];exact a
  |succ i=>
   have hlen:(l6 (rvE lk c)).length=(l6 c).length:=by
    rcases a9A lk c with⟨cs,rfl⟩|⟨j,e⟩
    . simp[rvE,l6]
    . rw[e,a9c (a8b lk c).1,a9c j];rfl
   rw[hlen]at hp;refine b4V b m (vs:=vs) (q:=q+(l6 c).length) (U:=fun i=>U (i+1)) (fun i x a=>?_) (fun i p hp=>f (i+1) p (by simpa using hp)) i p (by simpa using hp);rw[Nat.add_assoc];refine d _ x ?_;rw[a2Z,a4f j4,Nat.add_sub_cancel_left];exact a
theorem b6d{α:Type}{F:α→Sem Value}:∀(l:List α) (us:Nat→Value),(∀i a,l[i]?=some a→(F a).run P w=.ok (us i) w)→(l.mapM F).run P w=.ok ((List.range l.length).map us) w
 | [],us,_=>by simp
 |x::l,us,h=>by rw[List.mapM_cons,N6,h 0 x rfl];simp only[Result.andThen];rw[N6,b6d l (fun i=>us (i+1)) fun i a b=>h (i+1) a (by simpa using b)];simp only[Result.andThen,a1H,S9];congr 1;rw[List.range_succ_eq_map];simp[Function.comp_def]
theorem c7k{α β:Type}{f:α→Option β}{l:List α}{m:List β}(h:N1 f l=some m):l.length=m.length∧∀(i:Nat) a,l[i]?=some a→∃b,m[i]?=some b∧f a=some b:=by obtain⟨h1,c⟩:=a5z h;exact⟨h1,c⟩
theorem b9I{lk:D8}{vars:List PV}:∀{rs:List (Nat×Option (Bool×Nat))} {l:List PV},a2m lk vars rs=some l→rs.length=l.length∧∀(i:Nat) r,rs[i]?=some r→∃v,l[i]?=some v∧a9d lk vars r=some v
 | [],l,h=>by simp only[a2m,s5]at h;subst h;exact⟨rfl,fun i r hr=>by simp at hr⟩
 |r::rs,l,h=>by
  simp only[a2m]at h;split at h
  . rename_i v vs h1 b;cases h;obtain⟨c,d⟩:=b9I b;refine⟨by simp[c],fun i x a=>?_⟩;cases i with
    |zero=>simp at a;subst a;exact⟨v,rfl,h1⟩
    |succ i=>exact d i x (by simpa using a)
  . cases h
theorem b9S{agg:Bool}{sz:Nat}(c:j9 G h w D v p)(d:a0o lk agg sz p=some r):∃a,v=.pointer (some a):=by
 cases p<;>(try (simp[a0o]at d;done))<;>(unfold D at c;unfold j9 at c)
 case ptr=>obtain⟨b,rfl,_⟩:=c;exact⟨_,rfl⟩
 case eptr=>obtain⟨b,f,rfl,_⟩:=c;exact⟨_,rfl⟩
 case nptr=>obtain⟨b,f,rfl,_⟩:=c;exact⟨_,rfl⟩
 case fptr=>obtain⟨b,f,rfl,_⟩:=PR.a3f.1 c;exact⟨_,rfl⟩
theorem c9Q(c:j9 G h w D v p)(d:a6J lk n p=some r):∃a,v=.pointer (some a):=by
 cases p<;>simp only[a6J]at d<;>(try exact b9S c d)
 case eptr=>unfold D at c;unfold j9 at c;obtain⟨b,f,rfl,_⟩:=c;exact⟨_,rfl⟩
def a8J(tmps:Array Value):ResultVar→Sem Value
 | .tmp t=>pure (tmps.getD t undef)
 | .cell a t=>do loadVar t (←asAddr (tmps.getD a undef))
theorem d0o(fn:Func)(tmps:Array Value):results fn tmps=(do
 let vs ←fn.results.mapM (a8J tmps)
 pure (if h:vs.size=1 then vs[0]else .tuple vs)):=by
 unfold results;congr 2
def a8B(P:Program)(vs:List Nat):ResultVar→Option (Nat×Option (Bool×Nat)):=fun r=>match r with
 | .tmp t=>(vs.idxOf? t).map fun v=>(v,none)
 | .cell a t=>match vs.idxOf? a,a1D P t,I9 P t with
  |some v,some g,some s=>some (v,some (g,s))
  |_,_,_=>none
theorem d0L(hr:s6 B Z0 G h w)(z:V9 G h w vs vars a)(A:N1 (a8B P vs) fn.results.toList=some rs)(C:a2m (l7 h []) vars rs=some l):
 ∃us:Array Value,(fn.results.mapM (a8J a.tmps)).run P w=.ok us w∧us.size=l.length∧∀(i:Nat) p,l[i]?=some p→∃u,us[i]?=some u∧j9 G h w D u p:=by
 obtain⟨c1,c2⟩:=c7k A;obtain⟨l1,E⟩:=b9I C;have j:∀i,∃u,∀(hi:i<fn.results.size),(a8J a.tmps fn.results[i]).run P w=.ok u w∧∃p,l[i]?=some p∧j9 G h w D u p:=fun i=>by
  by_cases hi:i<fn.results.size
  . obtain⟨r,h1,b⟩:=c2 i fn.results[i] (by simp[hi]);obtain⟨p,o,c⟩:=E i r h1;have slot:∀{t k},vs.idxOf? t=some k→j9 G h w D (a.tmps.getD t undef) (vars.getD k .uu):=fun{t k} e=>by
     obtain⟨v,d,f⟩:=z k t (a0S e);rw[a4j,d];exact f
    cases m:fn.results[i]with
    |tmp t=>
     rw[m]at b;simp only[a8B]at b;obtain⟨k,e,rfl⟩:=C9.1 b;simp only[a9d,s5]at c;exact⟨a.tmps.getD t undef,fun _=>⟨by rw[m];rfl,p,o,c▸slot e⟩⟩
    |cell q t=>
     rw[m]at b;simp only[a8B]at b;split at b
     . rename_i k g s e x hs;cases b;simp only[a9d]at c;have n:=slot e;obtain⟨u,d,f⟩:∃u,(Instr.loadAt t (a.tmps.getD q undef)).run P w=.ok u w∧j9 G h w D u p:=by
        cases g with
        |true=>exact b5y (P:=P) hr x hs n (by simpa using c)
        |false=>exact a9C (P:=P) hr x hs n (by simpa using c)
       obtain⟨y,he⟩:∃y,a.tmps.getD q undef=.pointer (some y):=by
        cases g with
        |true=>exact c9Q n (by simpa using c)
        |false=>exact b9S (agg:=false) n (by simpa using c)
       refine⟨u,fun _=>⟨?_,p,o,f⟩⟩;rw[he]at d;rw[m];simp only[a8J,he];exact d
     . cases b
  . exact⟨undef,fun h=>absurd h hi⟩
 refine⟨((List.range fn.results.size).map fun i=>(j i).choose).toArray,?_,?_,fun i p hp=>?_⟩
 . have:=b6d (P:=P) (w:=w) (F:=a8J a.tmps) fn.results.toList (fun i=>(j i).choose) fun i r hi=>by
    obtain⟨h1,b⟩:=C0.1 hi;have:=((j i).choose_spec (by simpa using h1)).1;rw[show fn.results[i]'(by simpa using h1)=r by simpa using b]at this;exact this
   rw[Array.mapM_eq_mapM_toList,map_eq_pure_bind,N6,this];simp
 . simp;rw[←l1,←c1];simp
 . have hi:i<fn.results.size:=by
    have:=(C0.1 hp).1;rw[←l1,←c1]at this;simpa using this
   obtain⟨_,H,d,f⟩:=(j i).choose_spec hi;rw[hp]at d;cases d;exact⟨_,by simp[hi],f⟩
theorem a8U{F:Fence}{n m:Nat}{fn:Func}{tmps:Array Value}{R:Ending→World→Prop}:∀(Ds:List Nat) (w:World),Ds.Nodup→(∀D∈Ds,m≤D∧w.heap[D]?=some (.deferred (some [])))→(∀w',Y5 m w w'→LeavesIn F n P fn tmps R [] .returning w')→
 LeavesInM F n P fn tmps R (Ds.map fun D=>{target:=.collected D,args:= #[]}) .returning w
 | [],w,_,_,h=>h w (Y5.refl _ _)
 |D::Ds,w,d,a,h=>by obtain⟨h1,f⟩:=a4K.1 d;obtain⟨g,c⟩:=a D k8;refine⟨k8,.inl ⟨D,_,rfl,run_takeDeferred c,?_⟩⟩;have hs:Y5 m w (w.putObj D (.deferred none)):=Y5.put c rfl g;refine a8U Ds _ f (fun D' b=>⟨(a D' (by simp[b])).1,?_⟩) fun w' i=>h w' (hs.trans i);rw[b5p fun e=>h1 (by rw[←e];exact b)];exact(a D' (by simp[b])).2
theorem b1N(hr:s6 B Z0 G h w)(d:V9 G h w vs vars a)(f:N1 (a8B P vs) fn.results.toList=some rs)(g:a2m (l7 h []) vars rs=some l):
 ∃u,(results fn a.tmps).run P w=.ok u w∧j9 G h w (D+1) u (U7 l)∧((∀p,l=[p]→j9 G h w D u p)∧(l.length≠1→∃us:Array Value,u=.tuple us∧us.size=l.length∧∀(i:Nat) p,l[i]?=some p→∃u,us[i]?=some u∧j9 G h w D u p)):=by
 obtain⟨us,r1,r2,r3⟩:=d0L (P:=P) (fn:=fn) hr d f g;refine⟨if h:us.size=1 then us[0]else .tuple us,by rw[d0o,N6,r1];rfl,?_⟩;by_cases h1:us.size=1
 . rw[dif_pos h1];obtain⟨p,rfl⟩:∃p,l=[p]:=a9K.1 j4;obtain⟨u,b,c⟩:=r3 0 p rfl;rw[a5n j4]at b;cases b;exact⟨c.up,fun m e=>by cases e;exact c,fun j=>absurd rfl j⟩
 . rw[dif_neg h1];have k:U7 l=.tup l:=by
    match l,r2 with
    | [],_=>rfl
    | [p],r2=>exact absurd r2 h1
    |_::_::_,_=>rfl
   refine⟨?_,fun p e=>by subst e;exact absurd r2 h1,fun _=>⟨us,rfl,r2,r3⟩⟩;rw[k];unfold j9;exact⟨us,rfl,r2,r3⟩
theorem b0S{N:Nat}{szs:List Nat}{Z:Nat→Prop}(t:N1 (a8B P vs) fn.results.toList=some rs)(hi:N5 w.heap.size Z (M8.plain w) vs N vars h a w')
 (y:a2m (l7 h []) vars rs=some l) (z:a2u (a7l (U7 l))=true) (A:a3p szs 0 ((U2 (U7 l)).flatMap l6)=true):
 LeavesInM (fz none) n P fn a.tmps (fun e w'=>∃v G,e=.returned v∧Bl w.heap.size w w'∧s6 w.heap.size Z G (X2 szs (rvV (l7 h []) (U7 l))) w'∧j9 G (X2 szs (rvV (l7 h []) (U7 l))) w' D v (T4 (a0Y szs) (fun _=>1) (rvV (l7 h []) (U7 l)))) a.defers .returning w':=by
 obtain⟨G,j,i2,i3,⟨Ds,d1,d2,d3⟩,i5⟩:=hi;rw[d2];refine a8U (m:=w.heap.size) Ds w' d1 d3 fun o hs=>?_;obtain⟨r,B⟩:=j.cells (w':=o) (by rw[hs.size];exact p7 _) hs.cells;have C:V9 G h o vs vars a:=fun k s E=>by obtain⟨v,h1,F⟩:=i2 k s E;exact⟨v,h1,F.ext B⟩
 have H:=(M8.plain w).shut j i5 hs;obtain⟨u,I,_,J,d⟩:=b1N (P:=P) (fn:=fn) r C t y;obtain⟨K,b⟩:=c8b r (q:=U7 l) (szs:=szs) z A;refine⟨u,I,_,_,rfl,H,K,?_⟩;by_cases h1:l.length=1
 . obtain⟨p,rfl⟩:∃p,l=[p]:=a9K.1 h1;have d:=J p rfl;simp only[U7]at b⊢;by_cases f:∃vs,p=.tup vs
   . obtain⟨vs,rfl⟩:=f;obtain⟨ws,hw,hs,L⟩:=a9j d;rw[hw];simp only[rvV,T4];unfold D;unfold j9;refine⟨ws,rfl,by rw[b1I];simpa using hs,b4V (cells:=B4 (.tup vs)) b 4 (q:=0) (U:=fun i=>ws[i]?) (fun i x c=>by rw[V5];exact c) L⟩
   . have g:rvV (l7 h []) p=rvE (l7 h []) p:=by
      cases p<;>first|rfl|exact absurd ⟨_,rfl⟩ f
     have M:B4 p=l6 p:=by cases p<;>first|(exact absurd ⟨_,rfl⟩ f)|simp[B4,U2]
     have O:T4 (a0Y szs) (fun _=>1) (rvE (l7 h []) p)=a2i (a0Y szs) (fun _=>1) 0 (rvE (l7 h []) p):=by
      rcases a9A (l7 h []) p with⟨cs,rfl⟩|⟨R,e⟩
      . rfl
      . rw[e];have:=(a8b (l7 h []) p).2;cases Q:rvC (l7 h []) p<;>first|rfl|exact absurd Q (this _)
     rw[g]at b⊢;rw[O];exact b6j (cells:=B4 p) (q:=0) b (fun i x c=>by rw[V5,M];exact c) d 5
 . obtain⟨us,hu,r2,r3⟩:=d h1;have g:U7 l=.tup l:=by
    match l,h1 with
    | [],_=>rfl
    | [p],h1=>exact absurd rfl h1
    |_::_::_,_=>rfl
   rw[g]at b⊢;rw[hu];simp only[rvV,T4]at b⊢;unfold D;unfold j9;refine⟨us,rfl,by rw[b1I];simpa using r2,b4V (cells:=B4 (.tup l)) b 4 (q:=0) (U:=fun i=>us[i]?) (fun i x c=>by rw[V5];exact c) r3⟩
theorem c0E{N:Nat}(j:vs.all (Nat.blt · N)=true){Z:Nat→Prop}(l:∀b,Z b→U8 w b){c:Array Value}{args:List PV}(d:J4 (j9 (G0 Z) [] w D) c args)(hlen:args.length≤N):
 N5 w.heap.size Z (M8.plain w) vs N (vs.map fun s=>args.getD s .uu) (List.replicate n (0,.dead)) {tmps:=c++Array.replicate (N-c.size) undef,defers:=[]} w:=by
 obtain⟨t,d⟩:=d;have m:Ext (G0 Z) [] w (G0 Z) (List.replicate n (0,Ob.dead)) w:=⟨fun _ x=>x,fun _ _=>rfl,fun k gn ob e=>by simp at e⟩
 have p:∀{i g:Nat} {o:Ob},(List.replicate n (0,Ob.dead))[i]?=some (g,o)→o=.dead:=fun f=>by have:=a9H (D0 f);cases this;rfl
 have q:s6 w.heap.size Z (G0 Z) (List.replicate n (0,Ob.dead)) w:=
  ⟨p7 _,fun b hb=>.inl hb,l,fun _ a=>a.elim,fun _ _ _ _ _ _ a=>a.elim,fun _ _ _ _ _ _ a=>a.elim,fun _ _ a=>a.elim,fun i g o f=>by rw[p f];trivial⟩
 refine⟨G0 Z,q,fun i s hs=>?_,F6,a0p.nil,Bl.refl _ _⟩;have v:s<N:=by simpa[a1J]using B5.1 j s (D0 hs)
 rw[B0,H6,hs];simp only[a2Y,a4L];by_cases h:s<args.length
 . obtain⟨u,h1,r⟩:=d s _ (l9 h);refine⟨u,?_,?_⟩
   . rw[a2W j4];exact h1
   . rw[B0,l9 h];exact r.ext m
 . refine⟨undef,?_,?_⟩
   . rw[a5m j4,a7W,if_pos j4]
   . rw[B0,a0i j4];exact K6
def M8.inner(B:Nat)(G0:Gh)(h0:Heap)(w0:World)(a:B≤w0.heap.size):M8 B:=
 ⟨w0.heap.size,fun _ G h w=>Ext G0 h0 w0 G h w∧Bl B w0 w,fun h=>h.2.size,fun p x b=>⟨p.1.trans x,p.2.trans b⟩,fun r p s=>⟨p.1.trans (r.cells (by rw[s.size];exact p7 _) s.cells).2,p.2.shut a s⟩⟩
def a2c:PV→Bool
 | .agg cs=>cs.all one
 |c=>one c
theorem c1a{m:Nat}{u:Value}(b:a2c p=true)(a:j9 G h w n u p):j9 G h w (m+2) u p:=by
 cases p
 case agg cs=>
  cases n with
  |zero=>unfold j9 at a;exact a.elim
  |succ n=>
   unfold j9 at a⊢;obtain⟨vs,h1,c⟩:=a;exact⟨vs,h1,a6Z c b (Nat.succ_pos _)⟩
 all_goals exact one_cell b a (Nat.succ_pos _)
def b0V(rs:List (Nat×Option (Bool×Nat)))(r:PV)(h0:Heap)(ws:List (Nat×Row)):J0:=fun e vs h=>
 (match e with| .exit _=>False|_=>True)∧∃l,a2m (l7 h []) vs rs=some l∧(l.length==1||l.all a2c)=true∧U7 l=r∧h=p8 h0 ws
theorem b2P(hm:P.follows .mixedOrders=true){f:FuncId}{off:Nat}{X:u9}(b:L9 P f off=some X){first args cap:List PV}{h0:Heap}{ws:List (Nat×Row)}(hlen:(first++args++cap).length≤X.ntmps)(K:(first.all one&&cap.all one)=true)
 (L:F8 (fns P) X.body (b0V X.results r h0 ws) (X.vars.map fun s=>(first++args++cap).getD s .uu) h0):FI P (.fn (.func f) first cap) args h0 r ws:=by
 unfold L9 at b;dsimp only at b;split at b
 . cases b
 . rename_i fn A;split at b
   . cases b
   . rename_i c C;split at b
     . rename_i x k rs M N;split at b
       . rename_i O;obtain⟨Q,R,S,ai⟩:=O;cases b;refine⟨f,first,cap,rfl,by unfold a1q;rw[A];simpa[C]using Q,K,fun B Z0 G0 w t y z hr j q E=>?_⟩;refine(a3V (ρ:=none) (n:=0)).1 (callsIn_of_wp_marks A C trivial ?_);have T:J4 (j9 G0 h0 w D) (t++y++z) (first++args++cap):=by
          refine⟨by simp[j.1,q.1,E.1],fun i p hp=>?_⟩;by_cases h1:i<first.length
          . rw[a2o,a1k h1]at hp;obtain⟨u,d,g⟩:=j.2 i p hp;have:=(a1U.1 d).1;exact⟨u,by rw[a6W,a2W this];exact d,g⟩
          . rw[a2o,a4f j4]at hp;by_cases o:i-first.length<args.length
            . rw[a1k o]at hp;obtain⟨u,d,g⟩:=q.2 _ p hp;have:=(a1U.1 d).1;refine⟨u,?_,g⟩;rw[a6W,a5m (by rw[j.1];omega),j.1,a2W this];exact d
            . rw[a4f j4]at hp;obtain⟨u,d,g⟩:=E.2 _ p hp;refine⟨u,?_,g⟩;rw[a6W,a5m (by rw[j.1];omega),j.1,a5m (by rw[q.1];omega),q.1];exact d
         obtain⟨aj,U⟩:=T;have hi:N5 B Z0 (M8.inner B G0 h0 w hr.base) (varsOf fn c) fn.ntmps ((varsOf fn c).map fun s=>(first++args++cap).getD s .uu) h0 {tmps:=(t++y++z)++Array.replicate (fn.ntmps-(t++y++z).size) undef,defers:=[]} w:=by
          have ak:(first++args++cap).length≤fn.ntmps:=hlen;refine⟨G0,hr,fun i s hs=>?_,by rw[a6V,Array.size_replicate];omega,a0p.nil,Ext.refl,Bl.refl _ _⟩;have al:s<fn.ntmps:=(by simpa[a1J]using B5.1 S s (D0 hs));rw[B0,H6,hs];simp only[a2Y,a4L];by_cases F:s<(first++args++cap).length
          . obtain⟨u,h1,o⟩:=U s _ (l9 F);refine⟨u,?_,?_⟩
            . rw[a2W j4];exact h1
            . rw[B0,l9 F];exact o
          . refine⟨undef,?_,?_⟩
            . rw[a5m j4,a7W,if_pos j4]
            . rw[B0,a0i j4];exact K6
         refine b5J hm (a4V R) c off k x M _ _ _ _ _ _ L hi fun e vars h a w' V he=>?_;obtain⟨W,l,Y,Z,rfl,rfl⟩:=he;have key:LeavesInM (fz none) 0 P fn a.tmps (fun e w'=>∃u G',e=.returned u∧s6 B Z0 G' (p8 h0 ws) w'∧Ext G0 h0 w G' (p8 h0 ws) w'∧j9 G' (p8 h0 ws) w' D u (U7 l)∧Bl B w w') a.defers .returning w':=by
          obtain⟨G,H,i2,i3,⟨Ds,d1,d2,d3⟩,i5⟩:=V;rw[d2];refine a8U (m:=w.heap.size) Ds w' d1 d3 fun I hs=>?_;obtain⟨J,aa⟩:=H.cells (w':=I) (by rw[hs.size];exact p7 _) hs.cells;have ab:V9 G (p8 h0 ws) I (varsOf fn c) vars a:=fun k s ac=>by obtain⟨v,h1,o⟩:=i2 k s ac;exact⟨v,h1,o.ext aa⟩
          obtain⟨ad,ae⟩:=(M8.inner B G0 h0 w hr.base).shut H i5 hs;obtain⟨u,af,_,d,g⟩:=b1N (P:=P) (fn:=fn) J ab N Y;refine⟨u,af,u,G,rfl,J,ad,?_,ae⟩;by_cases h1:l.length=1
          . obtain⟨p,rfl⟩:∃p,l=[p]:=a9K.1 h1;exact d p rfl
          . obtain⟨us,hu,r2,r3⟩:=g h1;have ag:U7 l=.tup l:=by
             match l,h1 with
             | [],_=>rfl
             | [p],h1=>exact absurd rfl h1
             |_::_::_,_=>rfl
            rw[ag,hu];unfold D;unfold j9;refine⟨us,rfl,r2,fun i p hp=>?_⟩;obtain⟨u,g1,g2⟩:=r3 i p hp;have ah:l.all a2c=true:=(by simpa[h1]using Z);exact⟨u,g1,c1a (B5.1 ah p (D0 hp)) g2⟩
         cases e with
         |normal=>exact key
         |ret=>exact key
         |exit id=>exact W.elim
       . cases b
     . cases b
end
end
section
variable{ks:List Nat}{c0:Nat}{ob:Ob}
theorem b2r{f:Nat→Row}:∀{n p i:Nat},(a6k f n p)[i]?=if i<n then some (f (p+i))else none
 |0,p,i=>by simp[a6k]
 |n+1,p,0=>by simp[a6k]
 |n+1,p,i+1=>by
  simp only[a6k,List.getElem?_cons_succ,b2r]
  grind
theorem b8Y{live ks:List Nat}{c0:Nat}{h:Heap}:∀{vs:List PV} {i k:Nat},(sVs live ks c0 h i vs).getD k .uu=.uu∨(sVs live ks c0 h i vs).getD k .uu=a8s ks c0 h (vs.getD k .uu)
 | [],i,k=>.inl (by simp[sVs])
 |v::vs,i,0=>by
  simp only[sVs,List.getD_cons_zero]
  grind
 |v::vs,i,k+1=>by simp only[sVs,List.getD_cons_succ];exact b8Y
def sJ(ks:List Nat)(c0 p:Nat):Option Nat:=if p<c0 then none else ks[p-c0]?
section
variable{P:Program}{B:Nat}{Z0:Nat→Prop}{G G':Gh}{h h':Heap}{w w':World}
theorem b3m{sz ver:Nat}{fr:Bool}{es:List PV}(he:a0r ks c0 h ob=.arr sz ver fr es):∃a,ob=.arr sz a fr es∧es.all D9=true∧ver=0:=by
 cases ob with
 |dead=>cases he
 |var cs=>simp only[a0r]at he;split at he<;>cases he
 |mp f u v=>simp only[a0r]at he;split at he<;>cases he
 |arr s v f e=>
  simp only[a0r]at he;split at he
  . grind
  . cases he
theorem c1P{cs:List PV}(he:a0r ks c0 h ob=.var cs):∃a,ob=.var a∧cs=a.map (ren ks c0 h)∧cs.all one=true:=by
 cases ob with
 |dead=>cases he
 |arr s v f e=>simp only[a0r]at he;split at he<;>cases he
 |mp f u v=>simp only[a0r]at he;split at he<;>cases he
 |var c=>
  simp only[a0r]at he;split at he
  . grind
  . cases he
theorem c0O{fr:Bool}{us cs:List PV}(he:a0r ks c0 h ob=.mp fr us cs):ob=.mp fr us cs∧cs.all mvS=true:=by
 cases ob with
 |dead=>cases he
 |var cs=>simp only[a0r]at he;split at he<;>cases he
 |arr s v f e=>simp only[a0r]at he;split at he<;>cases he
 |mp f u v=>
  simp only[a0r]at he;split at he
  . rename_i a;cases he;exact⟨rfl,a⟩
  . cases he
theorem c9S{u:Value}{c:PV}(f:∀ns,c≠ .uslc ns)(a:mvS c=true)(b:j9 G h w D u c)(g:G'.Z=G.Z):j9 G' h' w D u c:=by
 by_cases e:c=.nils
 . subst e;obtain rfl:=a0k b;exact a4R
 by_cases hp:A7 c=true
 . have h1:=a4D hp b;rw[←g]at h1;exact a1x (a3C hp) h1
 . have d:fn0 c=true:=by
    cases c<;>simp[mvS,I7,hp]at a e f⊢ <;>assumption
   unfold fn0 at d;split at d
   . obtain⟨vs,us,rfl,h1,j⟩:=a8C b;unfold D;unfold j9;exact⟨vs,us,rfl,⟨h1.1,fun i c a=>by simp at a⟩,⟨j.1,fun i c a=>by simp at a⟩⟩
   . cases d
theorem b7A(hr:s6 B Z0 G h w)(aa:sOk ks c0 h=true):
 (∀{n:Nat} {u:Value} {c:PV},j9 G h w n u c→j9 (G.out (sJ ks c0)) (a3H ks c0 h) w n u (ren ks c0 h c))∧s6 B Z0 (G.out (sJ ks c0)) (a3H ks c0 h) w:=by
 unfold sOk at aa;simp only[E7,Nat.ble_eq]at aa;obtain⟨ab,hlen⟩:=aa;have ab:=a4V ab;have ac:∀{p k},sJ ks c0 p=some k→c0≤p∧ks[p-c0]?=some k:=fun{p k} hj=>by
  unfold sJ at hj;split at hj
  . cases hj
  . exact⟨j4,hj⟩
 have Y:∀{i k},ks[i]?=some k→sJ ks c0 (c0+i)=some k:=fun{i k} hi=>by unfold sJ;rw[if_neg j4,show c0+i-c0=i by omega];exact hi
 have Z:∀{p k},sJ ks c0 p=some k→(a3H ks c0 h)[p]?=some (1,a0r ks c0 h (h.getD k (0,.dead)).2):=fun{p k} hj=>by obtain⟨h1,E⟩:=ac hj;have:=(C0.1 E).1;unfold a3H;rw[b2r,if_pos j4,V5];unfold b0d;rw[if_neg j4,E]
 have ad:∀{p r},(a3H ks c0 h)[p]?=some r→r.2=.dead∨∃k ob g0,sJ ks c0 p=some k∧h[k]?=some (g0,ob)∧r=(1,a0r ks c0 h ob):=fun{p r} hp=>by
  unfold a3H at hp;rw[b2r]at hp;split at hp
  . cases hp;rw[V5];unfold b0d;split
    . exact .inl rfl
    . rename_i ay;cases z:ks[p-c0]? with
      |none=>exact .inl rfl
      |some k=>
       cases ae:h[k]? with
       |none=>left;simp[B0,ae,a0r]
       |some r0=>
        obtain⟨g0,ob⟩:=r0;refine .inr ⟨k,ob,g0,?_,ae,by simp[B0,ae]⟩;unfold sJ;rw[if_neg ay];exact z
  . cases hp
 have C:∀{p k y},sJ ks c0 p=some k→(G.out (sJ ks c0)).β (p,y)=G.β (k,y)∧((G.out (sJ ks c0)).R (p,y)↔G.R (k,y))∧(G.out (sJ ks c0)).γ (p,y)=G.γ (k,y)∧(G.out (sJ ks c0)).σ (p,y)=G.σ (k,y):=fun{p k y} hj=>by refine⟨?_,?_,?_,?_⟩<;>simp only[Gh.out,hj]
 have O:∀{p y},(G.out (sJ ks c0)).R (p,y)→∃k,sJ ks c0 p=some k:=fun{p y} t=>by
  cases hj:sJ ks c0 p with
  |some k=>exact⟨k,rfl⟩
  |none=>simp only[Gh.out,hj]at t
 have ar:∀{n:Nat} {u:Value} {c:PV},j9 G h w n u c→j9 (G.out (sJ ks c0)) (a3H ks c0 h) w n u (ren ks c0 h c):=by
  intro n u c d;cases c<;>simp only[ren]<;>(try exact K6)
  case bool=>obtain rfl:=a0X d;exact a1o
  case int=>obtain rfl:=Z2 d;exact a0J
  case str=>obtain rfl:=a2O d;exact a5E
  case nils=>obtain rfl:=a0k d;exact a4R
  case lit=>cases n<;>(unfold j9 at d⊢;exact d)
  case slc es=>exact a0N (a3n (G:=G) (h:=h) d)
  case M6 us cs=>exact a7M (a9p (G:=G) (h:=h) d)
  case fptr cs=>exact a4U (a8T (G:=G) (h:=h) d)
  case mapv k g=>
   cases hi:ks.idxOf? k with
   |none=>exact K6
   |some i=>
    have hj:=Y (a0S hi);have x:=j9.cell (m:=D) (by grind) d;refine j9.cell (n:=D) (by grind) ?_;unfold D at x⊢;unfold j9 at x⊢;obtain⟨b,J,gn,ob,af,ag,K⟩:=x;have F:h.getD k (0,.dead)=(gn,ob):=(by grind);refine⟨b,J,_,_,Z hj,?_,fun e fr us cs he=>?_⟩
    . split<;>omega
    . have q:gn=g:=by
       rw[F]at e;by_cases q:gn=g
       . exact q
       . simp[q]at e
      rw[F]at he;obtain⟨h1,_⟩:=c0O he;obtain⟨a1,_⟩:=C (y:=none) hj;rw[show(G.out (sJ ks c0)).β (root (c0+i))=G.β (root k)from a1];exact K q _ _ _ h1
  case own k g az s o l=>
   cases hi:ks.idxOf? k with
   |none=>exact K6
   |some i=>
    have hj:=Y (a0S hi);have x:=j9.cell (m:=D) (by grind) d;refine j9.cell (n:=D) (by grind) ?_;unfold D at x⊢;unfold j9 at x⊢;obtain⟨a,c,J,aA,aB,aC,gn,ob,af,ag,K⟩:=x;have F:h.getD k (0,.dead)=(gn,ob):=(by grind);refine⟨a,c,J,aA,aB,aC,_,_,Z hj,?_,fun e sz ver fr es he=>?_⟩
    . split<;>omega
    . have q:gn=g:=by
       rw[F]at e;by_cases q:gn=g
       . exact q
       . simp[q]at e
      rw[F]at he;obtain⟨au,h1,_,_⟩:=b3m he;obtain⟨ah,ai⟩:=K q _ _ _ _ h1;refine⟨ah,fun L=>?_⟩;obtain⟨aj,ak,al⟩:=ai L;obtain⟨a1,a2,a3,a4⟩:=C (y:=none) hj;rw[show(G.out (sJ ks c0)).β (root (c0+i))=G.β (root k)from a1,show(G.out (sJ ks c0)).γ (root (c0+i))=G.γ (root k)from a3];exact⟨aj,fun t=>ak (a2.1 t),fun t=>al fun y=>t (a2.2 y)⟩
  case eptr k g az s i0 aV=>
   cases hi:ks.idxOf? k with
   |none=>exact K6
   |some i=>
    have hj:=Y (a0S hi);have x:=j9.cell (m:=D) (by grind) d;refine j9.cell (n:=D) (by grind) ?_;unfold D at x⊢;unfold j9 at x⊢;obtain⟨b,f,J,gn,ob,af,ag,K⟩:=x;have F:h.getD k (0,.dead)=(gn,ob):=(by grind);refine⟨b,f,J,_,_,Z hj,?_,fun e sz ver fr es he=>?_⟩
    . split<;>omega
    . have q:gn=g:=by
       rw[F]at e;by_cases q:gn=g
       . exact q
       . simp[q]at e
      rw[F]at he;obtain⟨au,h1,_,_⟩:=b3m he;obtain⟨ah,ai⟩:=K q _ _ _ _ h1;refine⟨ah,fun L=>?_⟩;obtain⟨aj,ak,al⟩:=ai L;obtain⟨a1,a2,a3,a4⟩:=C (y:=none) hj;rw[show(G.out (sJ ks c0)).β (root (c0+i))=G.β (root k)from a1];exact⟨aj,ak,al⟩
  case ptr k g o=>
   cases hi:ks.idxOf? k with
   |none=>exact K6
   |some i=>
    have hj:=Y (a0S hi);have x:=j9.cell (m:=D) (by grind) d;refine j9.cell (n:=D) (by grind) ?_;unfold D at x⊢;unfold j9 at x⊢;obtain⟨b,J,gn,ob,af,ag,K⟩:=x;have F:h.getD k (0,.dead)=(gn,ob):=(by grind);refine⟨b,J,_,_,Z hj,?_,fun e cs he=>?_⟩
    . split<;>omega
    . have q:gn=g:=by
       rw[F]at e;by_cases q:gn=g
       . exact q
       . simp[q]at e
      rw[F]at he;obtain⟨aD,h1,_,_⟩:=c1P he;obtain⟨a1,_⟩:=C (y:=none) hj;rw[show(G.out (sJ ks c0)).β (root (c0+i))=G.β (root k)from a1];exact K q _ h1
 refine⟨ar,hr.base,hr.zo,hr.zb,?_,?_,?_,?_,?_⟩
 . rintro⟨p,y⟩ t;obtain⟨k,z⟩:=O t;obtain⟨a1,a2,_⟩:=C (y:=y) z;rw[a1];exact hr.lv _ (a2.1 t)
 . rintro p g o P H y t;obtain⟨k,z⟩:=O t;obtain⟨a1,a2,_⟩:=C (y:=y) z;rw[a1];rcases ad P with h1|⟨aE,ob,g0,h1,E,M⟩
   . simp only at h1;subst h1;cases H
   . rw[z]at h1;cases h1;cases M;refine hr.nz k g0 ob E ?_ y (a2.1 t);cases ob with
     |dead=>cases H
     |var cs=>rfl
     |arr s v f e=>simp only[a0r]at H;split at H<;>first|exact H|cases H
     |mp f u v=>simp only[a0r]at H;split at H<;>first|exact H|cases H
 . intro p g o P A y t;obtain⟨k,z⟩:=O t;obtain⟨a1,a2,_⟩:=C (y:=y) z;rw[a1];rcases ad P with h1|⟨aE,ob,g0,h1,E,M⟩
   . simp only at h1;subst h1;cases A
   . rw[z]at h1;cases h1;cases M;refine hr.fz k g0 ob E ?_ y (a2.1 t);cases ob with
     |dead=>cases A
     |var cs=>simp only[a0r]at A;split at A<;>cases A
     |arr s v f e=>simp only[a0r]at A;split at A<;>first|exact A|cases A
     |mp f u v=>simp only[a0r]at A;split at A<;>first|exact A|cases A
 . rintro⟨aF,aG⟩ ⟨aH,aI⟩ h1 E he;obtain⟨aW,av⟩:=O h1;obtain⟨aX,aw⟩:=O E;obtain⟨a1,a2,_⟩:=C (y:=aG) av;obtain⟨Q,R,_⟩:=C (y:=aI) aw;have:=hr.inj _ _ (a2.1 h1) (R.1 E) (by rw[←a1,←Q];exact he);simp only[s9]at this;obtain⟨rfl,rfl⟩:=this;obtain⟨c1,c2⟩:=ac av;obtain⟨d1,d2⟩:=ac aw;have:=b5d ab c2 d2;rw[show aF=aH by omega]
 . rintro p g o P;rcases ad P with h1|⟨k,ob,g0,z,E,M⟩
   . simp only at h1;subst h1;trivial
   . simp only[s9]at M;obtain⟨rfl,rfl⟩:=M;have N:=hr.ob k _ _ E;obtain⟨a1,a2,a3,a4⟩:=C (y:=none) z;cases am:a0r ks c0 h ob with
     |dead=>trivial
     |mp fr us cs=>
      obtain⟨rfl,aJ⟩:=c0O am;unfold F7 at N⊢;rw[show(G.out (sJ ks c0)).β (root p)=G.β (root k)from a1];obtain⟨S,U,es,aK,V,W,X⟩:=N;refine⟨a2.2 S,U,es,aK,V,W,fun i c d=>?_⟩;obtain⟨e,aL,L⟩:=X i c d;refine⟨e,aL,?_⟩;by_cases hu:∃ns,c=.uslc ns
      . obtain⟨ns,rfl⟩:=hu;unfold a0c O2 at L⊢;obtain⟨Q,R,an,ao⟩:=C (y:=some (i,0)) z;rw[Q,R,an,ao];exact L
      . have ap:∀ns,c≠ .uslc ns:=fun ns e=>hu ⟨ns,e⟩;have aM:=B5.1 aJ c (D0 d);exact(a4T ap).2 (c9S ap aM ((a4T ap).1 L) rfl)
     |var cs=>
      obtain⟨aD,rfl,rfl,aN⟩:=c1P am;unfold F7 at N⊢;obtain⟨S,us,T,U,V,W⟩:=N;refine⟨a2.2 S,us,T,by rw[show(G.out (sJ ks c0)).β (root p)=G.β (root k)from a1];exact U,by simpa using V,fun i c d=>?_⟩;rw[H6]at d;obtain⟨c1,ax,rfl⟩:=C9.1 d;obtain⟨u,X,aq⟩:=W i c1 ax;exact⟨u,X,B5.1 aN _ (G7.2 ⟨c1,D0 ax,rfl⟩),ar aq.2⟩
     |arr sz ver fr es=>
      obtain⟨au,rfl,aO,rfl⟩:=b3m am;unfold F7 at N⊢;rw[show(G.out (sJ ks c0)).β (root p)=G.β (root k)from a1,show(G.out (sJ ks c0)).γ (root p)=G.γ (root k)from a3];obtain⟨S,U,V,W,X⟩:=N;refine⟨S,U,V,fun t=>?_,fun t=>X fun y=>t (a2.2 y)⟩;obtain⟨us,T,aq,aP,aQ⟩:=W (a2.1 t);refine⟨us,T,aq,aP,fun i e he=>?_⟩;obtain⟨aR,aS⟩:=aQ i e he;refine⟨aR,fun j c d=>?_⟩;obtain⟨u,aT,I⟩:=aS j c d;refine⟨u,aT,?_⟩;have aU:(A7 c||I7 c)=true:=B5.1 (show(l6 e).all (fun c=>A7 c||I7 c)=true from B5.1 aO e (D0 he)) c (D0 d);cases c
      case uslc ns=>
       unfold G9 O2 at I⊢;obtain⟨Q,R,an,ao⟩:=C (y:=some (i,j)) z;rw[Q,R,an,ao];exact I
      case nils=>
       unfold G9 at I⊢;obtain rfl:=a0k I.2;exact⟨rfl,a4R⟩
      all_goals
       unfold G9 at I⊢;exact⟨I.1,a1x I.1 (a4D (G:=G) (h:=h) (by simpa[I7]using aU) I.2)⟩
theorem d1x(hr:s6 B Z0 G h w)(d:sOk ks c0 h=true){u:Value}{c:PV}(a:j9 G h w D u c):j9 (G.out (sJ ks c0)) (a3H ks c0 h) w D u (a8s ks c0 h c):=by
 obtain⟨e,_⟩:=b7A hr d;by_cases b:∃cs,c=.agg cs
 . obtain⟨cs,rfl⟩:=b;obtain⟨vs,rfl,h1,f⟩:=a5w a;refine a6Q ⟨by simpa using h1,fun i x g=>?_⟩
   grind
 . have:a8s ks c0 h c=ren ks c0 h c:=by
    cases c<;>first|rfl|exact absurd ⟨_,rfl⟩ b
   rw[this];exact e a
theorem c2P{W0:M8 B}{vs:List Nat}{N:Nat}{vars:List PV}{a:Act}(d:∀{g:PV} {G:Gh} {h:Heap} {f:PV} {G':Gh} {h':Heap} {w:World},W0.psi g G h w→W0.psi f G' h' w)(hi:N5 B Z0 W0 vs N vars h a w){live:List Nat}(b:sOk ks c0 h=true):N5 B Z0 W0 vs N (sVs live ks c0 h 0 vars) (a3H ks c0 h) a w:=by
 obtain⟨G,c,i2,i3,i4,i5⟩:=hi;refine⟨_,(b7A c b).2,fun k s hs=>?_,i3,i4,d i5⟩;obtain⟨v,h1,j⟩:=i2 k s hs;refine⟨v,h1,?_⟩;rcases b8Y (live:=live) (ks:=ks) (c0:=c0) (h:=h) (vs:=vars) (i:=0) (k:=k)with e|e
 . rw[e];exact K6
 . rw[e];exact d1x c b j
end
section
variable{P:Program}{B:Nat}{Z0:Nat→Prop}{W0:M8 B}{vs:List Nat}{N:Nat}{vars:List PV}{h:Heap}{a:Act}{w:World}
theorem c1h{nn:Nat}(hm:P.follows .mixedOrders=true)(v:∀{g z:PV} {G:Gh} {h:Heap} {w:World},W0.psi g G h w→W0.psi z G h w)(F:vs.Nodup):∀(c:Code) (k u:Nat) (x:C6),(a2n x=true∨∀{g:PV} {G:Gh} {h:Heap} {z:PV} {G':Gh} {h':Heap} {w:World},W0.psi g G h w→W0.psi z G' h' w)→E4 P vs N k c=some (strip x,u)→∀(Q':J0) (Q:Exit→Act→World→Prop) (vars:List PV) (h:Heap) (a:Act) (w:World),
 F8 (fns P) x Q' vars h→N5 B Z0 W0 vs N vars h a w→b0G B Z0 W0 vs N Q' Q→c.wpIn (fz none) nn P Q a w:=by
 intro c
 induction c with
 |skip=>
  intro k u x o f Q' Q vars h a w j hi m;have hp:=a3z v j hi;clear j hi;obtain⟨x,vars,h,r,s,⟨q,p⟩,j,hi⟩:=hp;rw[←q]at f;rw[←p]at o;clear p;simp only[E4,s5,s9]at f;obtain⟨f,rfl⟩:=f;obtain rfl:=b8N r s f.symm;exact wpIn_skip (m .normal _ _ _ _ hi j)
 |label l=>
  intro k u x o f Q' Q vars h a w j hi m;have hp:=a3z v j hi;clear j hi;obtain⟨x,vars,h,r,s,⟨q,p⟩,j,hi⟩:=hp;rw[←q]at f;rw[←p]at o;clear p;simp only[E4,s5,s9]at f;obtain⟨f,rfl⟩:=f;obtain rfl:=b8N r s f.symm;exact wpIn_label (m .normal _ _ _ _ hi j)
 |exit id=>
  intro k u x o f Q' Q vars h a w j hi m;have hp:=a3z v j hi;clear j hi;obtain⟨x,vars,h,r,s,⟨q,p⟩,j,hi⟩:=hp;rw[←q]at f;rw[←p]at o;clear p;simp only[E4,s5,s9]at f;obtain⟨f,rfl⟩:=f;obtain rfl:=d1j r s f.symm;exact wpIn_exit (m (.exit id) _ _ _ _ hi j)
 |ret=>
  intro k u x o f Q' Q vars h a w j hi m;have hp:=a3z v j hi;clear j hi;obtain⟨x,vars,h,r,s,⟨q,p⟩,j,hi⟩:=hp;rw[←q]at f;rw[←p]at o;clear p;simp only[E4,s5,s9]at f;obtain⟨f,rfl⟩:=f;obtain rfl:=c6k r s f.symm;exact wpIn_ret (m .ret _ _ _ _ hi j)
 |region id ops d=>
  intro k u x o f Q' Q vars h a w j hi m;have hp:=a3z v j hi;clear j hi;obtain⟨x,vars,h,r,s,⟨q,p⟩,j,hi⟩:=hp;rw[←q]at f;rw[←p]at o;clear p;simp only[E4]at f;split at f
  . rename_i xs A L;simp only[s5,s9]at f;obtain⟨f,rfl⟩:=f;obtain rfl:=c6M r s f.symm;obtain⟨M,j⟩:=j;rw[show ops=ops.toList.toArray by simp];cases d with
    |false=>exact b3E rfl rfl a6l F L M j (fun st a w hi H=>m .normal _ _ _ _ hi H) hi
    |true=>exact b4I hm rfl rfl a6l F L M j (fun st a w hi H=>m .normal _ _ _ _ hi H) hi
  . cases f
 |seq c1 c2 I J=>
  intro k u x o f Q' Q vars h a w j hi m;have hp:=a3z v j hi;clear j hi;obtain⟨x,vars,h,r,s,⟨q,p⟩,j,hi⟩:=hp;rw[←q]at f;rw[←p]at o;clear p;simp only[E4]at f;split at f
  . rename_i t A h1;split at f
    . rename_i C O D;simp only[s5,s9]at f;obtain⟨f,rfl⟩:=f;obtain⟨t,C,rfl,rfl,rfl⟩:=c6X r s f.symm;simp only[a2n,E7]at o;refine wpIn_seq (I _ _ _ (o.imp (·.1) fun h=>h) h1 _ _ _ _ _ _ j hi fun e vars h a w hi he=>?_);cases e with
      |normal=>exact J _ _ _ (o.imp (·.2) fun h=>h) D _ _ _ _ _ _ he hi m
      |exit id=>exact m (.exit id) _ _ _ _ hi he
      |ret=>exact m .ret _ _ _ _ hi he
    . cases f
  . cases f
 |cond V c1 c2 I J=>
  intro k u x o f Q' Q vars h a w j hi m;have hp:=a3z v j hi;clear j hi;obtain⟨x,vars,h,r,s,⟨q,p⟩,j,hi⟩:=hp;rw[←q]at f;rw[←p]at o;clear p;simp only[E4]at f;split at f
  . rename_i t A h1;split at f
    . rename_i C O D;split at f
      . rename_i dd S;simp only[s5,s9]at f;obtain⟨f,rfl⟩:=f;obtain⟨t,C,rfl,rfl,rfl⟩:=c3Y r s f.symm;simp only[a2n,E7]at o;obtain⟨G,W,i2,i3⟩:=id hi;have hr:=b1R S i2;simp only[F8]at j;split at j
        . rename_i he;rw[he]at hr;exact wpIn_cond_true (a0X hr) (I _ _ _ (o.imp (·.1) fun h=>h) h1 _ _ _ _ _ _ j hi m)
        . rename_i he;rw[he]at hr;exact wpIn_cond_false (a0X hr) (J _ _ _ (o.imp (·.2) fun h=>h) D _ _ _ _ _ _ j hi m)
        . exact j.elim
      . cases f
    . cases f
  . cases f
 |block id c y=>
  intro k u x o f Q' Q vars h a w j hi m;have hp:=a3z v j hi;clear j hi;obtain⟨x,vars,h,r,s,⟨q,p⟩,j,hi⟩:=hp;rw[←q]at f;rw[←p]at o;clear p;simp only[E4]at f;split at f
  . rename_i t A h1;simp only[s5,s9]at f;obtain⟨f,rfl⟩:=f;obtain⟨t,rfl,rfl⟩:=c4T r s f.symm;refine wpIn_block (y _ _ t (show a2n t=true∨_ from o) h1 _ _ _ _ _ _ j hi fun e vars h a w hi he=>?_);cases e with
    |normal=>exact m .normal _ _ _ _ hi he
    |exit i=>
     simp only[xin]at he;show Exit.inBlock id Q (.exit i) a w;simp only[Exit.inBlock];split at he
     . rename_i e;rw[if_pos e];exact m .normal _ _ _ _ hi he
     . rename_i e;rw[if_neg e];exact m (.exit i) _ _ _ _ hi he
    |ret=>exact m .ret _ _ _ _ hi he
  . cases f
 |loop c y=>
  intro k u x o f Q' Q vars h a w j hi m;have hp:=a3z v j hi;clear j hi;obtain⟨x,vars,h,r,s,⟨q,p⟩,j,hi⟩:=hp;rw[←q]at f;rw[←p]at o;clear p;simp only[E4]at f;split at f
  . rename_i t A h1;simp only[s5,s9]at f;obtain⟨f,rfl⟩:=f;rcases c6K r s f.symm with⟨t,rfl,rfl⟩|⟨lv,c0,t,rfl,rfl⟩
    . obtain⟨n,j⟩:=j;refine wpIn_loop_rounds n ?_
      induction n generalizing vars h a w with
      |zero=>exact j.elim
      |succ n K=>
       refine y _ _ t (show a2n t=true∨_ from o) h1 _ _ _ _ _ _ j hi fun e vars h a w hi he=>?_;cases e with
       |normal=>exact K _ _ _ _ hi he
       |exit id=>exact m (.exit id) _ _ _ _ hi he
       |ret=>exact m .ret _ _ _ _ hi he
    . obtain⟨n,j⟩:=j;refine wpIn_loop_rounds n ?_
      induction n generalizing vars h a w with
      |zero=>exact j.elim
      |succ n K=>
       obtain⟨T,j⟩:=j;have R:∀{g:PV} {G:Gh} {h:Heap} {z:PV} {G':Gh} {h':Heap} {w:World},W0.psi g G h w→W0.psi z G' h' w:=by
        rcases o with h1|h1
        . simp[a2n]at h1
        . exact h1
       refine y _ _ _ (.inr R) h1 _ _ _ _ _ _ j (c2P R hi T) fun e vars h a w hi he=>?_;cases e with
       |normal=>exact K _ _ _ _ hi he
       |exit id=>exact m (.exit id) _ _ _ _ hi he
       |ret=>exact m .ret _ _ _ _ hi he
  . cases f
 |scope c y=>
  intro k u x o f Q' Q vars h a w j hi m;have hp:=a3z v j hi;clear j hi;obtain⟨x,vars,h,r,s,⟨q,p⟩,j,hi⟩:=hp;rw[←q]at f;rw[←p]at o;clear p;simp only[E4]at f;refine b3u (y _ _ _ o f _ _ _ _ _ _ j hi fun e vars h a w hi he=>?_);cases e with
  |normal=>exact m .normal _ _ _ _ hi he
  |exit id=>exact m (.exit id) _ _ _ _ hi he
  |ret=>exact m .ret _ _ _ _ hi he
 |rangeFunc g ps a b X Y=>
  intro k u x o f Q' Q vars h act w j hi m;have hp:=a3z v j hi;clear j hi;obtain⟨x,vars,h,r,s,⟨q,p⟩,j,hi⟩:=hp;rw[←q]at f;rw[←p]at o;clear p;simp only[E4]at f;split at f
  . rename_i t A h1;split at f
    . rename_i C O D;split at f
      . rename_i gd U;split at f
        . rename_i E;simp only[s5,s9]at f;obtain⟨f,rfl⟩:=f;obtain⟨t,C,rfl,rfl,rfl⟩:=c3D r s f.symm;simp only[E7]at E;exact b7y hm F h1 D U E.1.1 E.1.2 E.2 j hi m
        . cases f
      . cases f
    . cases f
  . cases f
 |_=>
  intro k u x o f;simp only[E4]at f;cases f
theorem b7p(hm:P.follows .mixedOrders=true){f:FuncId}{X:u9}{s0:Nat}(b:a4S P f=some {X with sites:=s0,body:=strip X.body}){n:Nat}{szs:List Nat}{args:List PV}{r:PV}(hlen:args.length≤X.ntmps)
 (t:F8 (fns P) X.body (b2j X.results szs r) (X.vars.map fun s=>args.getD s .uu) (List.replicate n (0,.dead))):Fn P f szs args r:=by
 unfold a4S at b;dsimp only at b;split at b
 . cases b
 . rename_i fn d;split at b
   . cases b
   . rename_i c g;split at b
     . rename_i x k rs i j;split at b
       . rename_i u;obtain⟨v,y,z,F⟩:=u;obtain⟨G,H,I,J,A⟩:=X;simp only[s5,u9.mk.injEq]at b;obtain⟨rfl,rfl,rfl,rfl,B⟩:=b;rw[B]at i;refine⟨by unfold a1q;rw[d];simpa[g]using v,fun w Z K C D=>?_⟩;refine(a3V (ρ:=none) (n:=0)).1 (callsIn_of_wp_marks d g trivial ?_);refine c1h hm (fun h=>h) (a4V y) c 0 k A (.inr fun h=>h) i _ _ _ _ _ _ t (c0E z C D hlen) fun e vars h a w' m he=>?_;obtain⟨E,l,o,p,q,rfl⟩:=he;cases e with
         |normal=>exact b0S j m o p q
         |ret=>exact b0S j m o p q
         |exit id=>exact E.elim
       . cases b
     . cases b
theorem b5W(hm:P.follows .mixedOrders=true){f:FuncId}{off s0:Nat}{X:u9}(b:L9 P f off=some {X with sites:=s0,body:=strip X.body})(K:a2n X.body=true){first args cap:List PV}{r:PV}{h0:Heap}{ws:List (Nat×Row)}(hlen:(first++args++cap).length≤X.ntmps)(L:(first.all one&&cap.all one)=true)
 (M:F8 (fns P) X.body (b0V X.results r h0 ws) (X.vars.map fun s=>(first++args++cap).getD s .uu) h0):FI P (.fn (.func f) first cap) args h0 r ws:=by
 unfold L9 at b;dsimp only at b;split at b
 . cases b
 . rename_i fn A;split at b
   . cases b
   . rename_i c C;split at b
     . rename_i x k rs E N;split at b
       . rename_i O;obtain⟨Q,R,S,ai⟩:=O;obtain⟨aj,ak,al,am,T⟩:=X;simp only[s5,u9.mk.injEq]at b;obtain⟨rfl,rfl,rfl,rfl,U⟩:=b;rw[U]at E;refine⟨f,first,cap,rfl,by unfold a1q;rw[A];simpa[C]using Q,L,fun B Z0 G0 w q t y hr j o F=>?_⟩;refine(a3V (ρ:=none) (n:=0)).1 (callsIn_of_wp_marks A C trivial ?_);have V:J4 (j9 G0 h0 w D) (q++t++y) (first++args++cap):=by
          refine⟨by simp[j.1,o.1,F.1],fun i p hp=>?_⟩;by_cases h1:i<first.length
          . rw[a2o,a1k h1]at hp;obtain⟨u,d,g⟩:=j.2 i p hp;have:=(a1U.1 d).1;exact⟨u,by rw[a6W,a2W this];exact d,g⟩
          . rw[a2o,a4f j4]at hp;by_cases z:i-first.length<args.length
            . rw[a1k z]at hp;obtain⟨u,d,g⟩:=o.2 _ p hp;have:=(a1U.1 d).1;refine⟨u,?_,g⟩;rw[a6W,a5m (by rw[j.1];omega),j.1,a2W this];exact d
            . rw[a4f j4]at hp;obtain⟨u,d,g⟩:=F.2 _ p hp;refine⟨u,?_,g⟩;rw[a6W,a5m (by rw[j.1];omega),j.1,a5m (by rw[o.1];omega),o.1];exact d
         obtain⟨an,ao⟩:=V;have hi:N5 B Z0 (M8.inner B G0 h0 w hr.base) (varsOf fn c) fn.ntmps ((varsOf fn c).map fun s=>(first++args++cap).getD s .uu) h0 {tmps:=(q++t++y)++Array.replicate (fn.ntmps-(q++t++y).size) undef,defers:=[]} w:=by
          have ap:(first++args++cap).length≤fn.ntmps:=hlen;refine⟨G0,hr,fun i s hs=>?_,by rw[a6V,Array.size_replicate];omega,a0p.nil,Ext.refl,Bl.refl _ _⟩;have aq:s<fn.ntmps:=(by simpa[a1J]using B5.1 S s (D0 hs));rw[B0,H6,hs];simp only[a2Y,a4L];by_cases ar:s<(first++args++cap).length
          . grind
          . refine⟨undef,?_,?_⟩
            . grind
            . rw[B0,a0i j4];exact K6
         refine c1h hm (fun h=>h) (a4V R) c off k T (.inl K) E _ _ _ _ _ _ M hi fun e vars h a w' W he=>?_;obtain⟨Y,l,Z,au,rfl,rfl⟩:=he;have key:LeavesInM (fz none) 0 P fn a.tmps (fun e w'=>∃u G',e=.returned u∧s6 B Z0 G' (p8 h0 ws) w'∧Ext G0 h0 w G' (p8 h0 ws) w'∧j9 G' (p8 h0 ws) w' D u (U7 l)∧Bl B w w') a.defers .returning w':=by
          obtain⟨G,H,i2,i3,⟨Ds,d1,d2,d3⟩,i5⟩:=W;rw[d2];refine a8U (m:=w.heap.size) Ds w' d1 d3 fun I hs=>?_;obtain⟨J,aa⟩:=H.cells (w':=I) (by rw[hs.size];exact p7 _) hs.cells;have ab:V9 G (p8 h0 ws) I (varsOf fn c) vars a:=fun k s ac=>by obtain⟨v,h1,z⟩:=i2 k s ac;exact⟨v,h1,z.ext aa⟩
          obtain⟨ad,ae⟩:=(M8.inner B G0 h0 w hr.base).shut H i5 hs;obtain⟨u,af,_,d,g⟩:=b1N (P:=P) (fn:=fn) J ab N Z;refine⟨u,af,u,G,rfl,J,ad,?_,ae⟩;by_cases h1:l.length=1
          . obtain⟨p,rfl⟩:∃p,l=[p]:=a9K.1 h1;exact d p rfl
          . obtain⟨us,hu,r2,r3⟩:=g h1;have ag:U7 l=.tup l:=by
             match l,h1 with
             | [],_=>rfl
             | [p],h1=>exact absurd rfl h1
             |_::_::_,_=>rfl
            rw[ag,hu];unfold D;unfold j9;refine⟨us,rfl,r2,fun i p hp=>?_⟩;obtain⟨u,g1,g2⟩:=r3 i p hp;have ah:l.all a2c=true:=(by grind);exact⟨u,g1,c1a (B5.1 ah p (D0 hp)) g2⟩
         cases e with
         |normal=>exact key
         |ret=>exact key
         |exit id=>exact Y.elim
       . cases b
     . cases b
end
end
structure Callee where
 fn:FuncId→List Nat→List PV→Option PV
 fi:PV→List PV→Heap→Option (PV×List (Nat×Row))
def b4P(hide:List Nat)(a:A6→PV)(h:Heap)(ws:List (Nat×Row)):Bool:=hide.all (fun n=>Nat.ble 1000000 n)&&Nat.ble h.length 1000000&&a2e hide a ws
theorem c5Z{fi:PV→List PV→Heap→PV→List (Nat×Row)→Prop}{hide:List Nat}{c:A6→PV}{v:PV}{a:List PV}{h:Heap}{r:PV}{ws:List (Nat×Row)}(b:b4P hide c h ws=true)(d:fi v a h r ws):fiH fi hide c v a h r ws:=by
 unfold b4P at b;rw[E7,E7]at b;obtain⟨⟨h1,f⟩,g⟩:=b;cases hide with
 |nil=>exact d
 |cons k l=>
  refine⟨fun h' e=>?_,g⟩;have:h'=h:=a4g fun n=>by
   by_cases j:n<1000000
   . refine e.2 n ?_;cases i:(k::l).contains n
     . rfl
     . have:=B5.1 h1 n (a0I.1 i);have:=Nat.le_of_ble_eq_true this;omega
   . have m:=Nat.le_of_ble_eq_true f;have o:=e.1
     grind
  rw[this];exact d
def a2v(call:Callee):List l5→B3→Option B3
 | [],st=>some st
 |x::xs,st=>match gdO st.loc st.vars x.guard with
  |none=>none
  |some false=>a2v call xs ⟨st.loc++[.tup []],I8 st.vars x.var (.tup []),st.heap⟩
  |some true=>match x.op with
   | .call f args ks al=>if(al&&!(args.all fun a=>a2K (y9 st.loc st.vars a)))then none else match call.fn f (ks.map (·.2)) (args.map fun a=>fzV (l7 st.heap x.hide) (y9 st.loc st.vars a))with
    |some r=>if a3k st.heap.length ks ((args.map (y9 st.loc st.vars)).any (a1K (l7 st.heap x.hide))) r then
     a2v call xs ⟨st.loc++[T4 (M7 ks) (U0 (l7 st.heap x.hide)) r],I8 st.vars x.var (T4 (M7 ks) (U0 (l7 st.heap x.hide)) r),p8 st.heap (I3 (M7 ks) (U0 (l7 st.heap x.hide)) 0 (B4 r))⟩else none
    |none=>none
   | .callv f args=>match call.fi (y9 st.loc st.vars f) (args.map (y9 st.loc st.vars)) st.heap with
    |some (r,ws)=>if b4P x.hide (y9 st.loc st.vars) st.heap ws then a2v call xs ⟨st.loc++[r],I8 st.vars x.var r,p8 st.heap ws⟩else none
    |none=>none
   | .cally f args=>match call.fi (y9 st.loc st.vars f) (args.map (y9 st.loc st.vars)) st.heap with
    |some (r,ws)=>a2v call xs ⟨st.loc++[r],I8 st.vars x.var r,p8 st.heap ws⟩
    |none=>none
   |op=>match A9 (y9 st.loc st.vars) (l7 st.heap x.hide) op with
    |some (p,ws)=>a2v call xs ⟨st.loc++[p],I8 st.vars x.var p,p8 st.heap ws⟩
    |none=>none
abbrev a8Y:=Option (O4×List PV×Heap)
def a8R(body:List PV→Heap→a8Y):Nat→List PV→Heap→a8Y
 |0,_,_=>none
 |n+1,vs,h=>match body vs h with
  |some (.normal,vs,h)=>a8R body n vs h
  |r=>r
def a0b(call:Callee)(n:Nat):C6→List PV→Heap→a8Y
 | .skip,vs,h=>some (.normal,vs,h)
 | .reg xs,vs,h=>if a1Q h.length xs then(match a2v call xs ⟨[],vs,h⟩with
  |some st=>some (.normal,st.vars,st.heap)
  |none=>none)else none
 | .seq a b,vs,h=>match a0b call n a vs h with
  |some (.normal,vs,h)=>a0b call n b vs h
  |r=>r
 | .cond c a b,vs,h=>match y9 [] vs c with
  | .bool true=>a0b call n a vs h
  | .bool false=>a0b call n b vs h
  |_=>none
 | .block id b,vs,h=>match a0b call n b vs h with
  |some (.exit i,vs,h)=>if i=id then some (.normal,vs,h)else some (.exit i,vs,h)
  |r=>r
 | .loop b,vs,h=>a8R (a0b call n b) n vs h
 | .loopS ..,_,_=>none
 | .G6 ..,_,_=>none
 | .G4 ..,_,_=>none
 | .rfor ..,_,_=>none
 | .exit id,vs,h=>some (.exit id,vs,h)
 | .ret,vs,h=>some (.ret,vs,h)
def b1O(rs:List (Nat×Option (Bool×Nat)))(szs:List Nat):a8Y→Option PV
 |none|some (.exit _,_,_)=>none
 |some (_,vs,h)=>match a2m (l7 h []) vs rs with
  |some l=>if a2u (a7l (U7 l))&&a3p szs 0 (B4 (U7 l))then some (rvV (l7 h []) (U7 l))else none
  |none=>none
def unused:Heap→Nat
 | []=>0
 |(g,o)::h=>match unused h,g,o with
  |0,0,.dead=>0
  |n,_,_=>n+1
def allRows:Nat→Heap→List (Nat×Row)
 |_,[]=>[]
 |i,r::h=>(i,r)::allRows (i+1) h
def b0q(rs:List (Nat×Option (Bool×Nat)))(n:Nat):a8Y→Option (PV×List (Nat×Row))
 |none|some (.exit _,_,_)=>none
 |some (_,vs,h)=>match a2m (l7 h []) vs rs with
  |some l=>if(l.length==1||l.all a2c)&&h.length==n then some (U7 l,allRows 0 h)else none
  |none=>none
def a1E(P:Program)(n ex:Nat):Nat→Callee
 |0=>⟨fun _ _ _=>none,fun _ _ _=>none⟩
 |d+1=>⟨fun f szs args=>match a4S P f with
  |some X=>if args.length≤X.ntmps then b1O X.results szs (a0b (a1E P n ex d) n X.body (X.vars.map fun s=>args.getD s .uu) (List.replicate (X.sites+ex) (0,.dead)))else none
  |none=>none,
  fun v args h=>match v with
  | .fn (.func f) first cap=>match L9 P f (unused h)with
   |some X=>if(first++args++cap).length≤X.ntmps&&(first.all one&&cap.all one)then b0q X.results h.length (a0b (a1E P n ex d) n X.body (X.vars.map fun s=>(first++args++cap).getD s .uu) h)else none
   |none=>none
  |_=>none⟩
section
variable{FN:N0}{call:Callee}
theorem a7o(i:∀v a vs h K,(∃r ws,FN.fi v a h r ws∧K r vs (p8 h ws))→FN.fy v a vs h K)(j:∀f s a r,call.fn f s a=some r→FN.fn f s a r)(hi:∀v a h r ws,call.fi v a h=some (r,ws)→FN.fi v a h r ws){Q:B3→Prop}:∀{xs:List l5} {st k:B3},a2v call xs st=some k→Q k→E9 FN xs st Q
 | [],st,k,h,g=>by simp only[a2v,s5]at h;subst h;exact g
 |x::xs,st,k,h,g=>by
  cases b:gdO st.loc st.vars x.guard with
  |none=>simp only[a2v,b]at h;cases h
  |some c=>
   cases c with
   |false=>
    simp only[a2v,b]at h;simp only[E9,b];exact a7o i j hi h g
   |true=>
    cases d:x.op
    case call f args ks al=>
     simp only[a2v,b,d]at h;simp only[E9,b,d];split at h
     . cases h
     . rename_i l;split at h
       . rename_i r hr;split at h
         . rename_i m;exact⟨r,fun e=>by rw[e]at l;simpa using l,j _ _ _ _ hr,m,a7o i j hi h g⟩
         . cases h
       . cases h
    case callv f args=>
     simp only[a2v,b,d]at h;simp only[E9,b,d];split at h
     . rename_i r ws hr;split at h
       . rename_i n;exact⟨r,ws,c5Z n (hi _ _ _ _ _ hr),a7o i j hi h g⟩
       . cases h
     . cases h
    case cally f args=>
     simp only[a2v,b,d]at h;simp only[E9,b,d];split at h
     . rename_i r ws hr;exact i _ _ _ _ _ ⟨r,ws,hi _ _ _ _ _ hr,a5v _ _,a7o i j hi h g⟩
     . cases h
    all_goals
     simp only[a2v,b,d]at h;simp only[E9,b,d];split at h
     . rename_i p ws o;rw[o];exact a7o i j hi h g
     . cases h
theorem b8V(t:∀v a vs h K,(∃r ws,FN.fi v a h r ws∧K r vs (p8 h ws))→FN.fy v a vs h K)(u:∀f s a r,call.fn f s a=some r→FN.fn f s a r)(hi:∀v a h r ws,call.fi v a h=some (r,ws)→FN.fi v a h r ws){n:Nat}:∀{c:C6} {Q:J0} {vs vs':List PV} {h h':Heap} {e:O4},a0b call n c vs h=some (e,vs',h')→Q e vs' h'→F8 FN c Q vs h:=by
 intro c
 induction c with
 |skip=>intro Q vs vs' h h' e hr d;simp only[a0b,s5,s9]at hr;obtain⟨rfl,rfl,rfl⟩:=hr;exact d
 |reg xs=>
  intro Q vs vs' h h' e hr d;simp only[a0b]at hr;split at hr
  . rename_i hs;split at hr
    . rename_i st w;simp only[s5,s9]at hr;obtain⟨rfl,rfl,rfl⟩:=hr;exact⟨hs,a7o t u hi w d⟩
    . cases hr
  . cases hr
 |seq a b o p=>
  intro Q vs vs' h h' e hr d;simp only[a0b]at hr;split at hr
  . rename_i q h1 x;exact o x (p hr d)
  . rename_i k;refine o hr ?_;cases e with
    |normal=>exact absurd hr (k vs' h')
    |exit id=>exact d
    |ret=>exact d
 |cond z a b o p=>
  intro Q vs vs' h h' e hr d;simp only[a0b]at hr;simp only[F8];split at hr
  . rename_i hb;rw[hb];exact o hr d
  . rename_i hb;rw[hb];exact p hr d
  . cases hr
 |block id b g=>
  intro Q vs vs' h h' e hr d;simp only[a0b]at hr;split at hr
  . rename_i i q h1 hb;refine g hb ?_;simp only[xin];split at hr
    . grind
    . grind
  . rename_i k;refine g hr ?_;cases e with
    |normal=>exact d
    |exit i=>exact absurd hr (k i vs' h')
    |ret=>exact d
 |loop b g=>
  intro Q vs vs' h h' e hr d;simp only[a0b]at hr;refine⟨n,?_⟩;generalize hm:n=m at hr;have j:a8R (a0b call n b) m vs h=some (e,vs',h'):=by grind
  clear hm hr
  induction m generalizing vs h with
  |zero=>simp only[a8R]at j;cases j
  |succ m y=>
   simp only[a8R]at j;simp only[a3i];split at j
   . rename_i q h1 hb;exact g hb (y j)
   . rename_i k;refine g j ?_;cases e with
     |normal=>exact absurd j (k vs' h')
     |exit i=>exact d
     |ret=>exact d
 |loopS lv c0 b g=>intro Q vs vs' h h' e hr d;simp only[a0b]at hr;cases hr
 |G6 l b g=>intro Q vs vs' h h' e hr d;simp only[a0b]at hr;cases hr
 |rfor=>intro Q vs vs' h h' e hr d;simp only[a0b]at hr;cases hr
 |G4=>intro Q vs vs' h h' e hr d;simp only[a0b]at hr;cases hr
 |exit id=>intro Q vs vs' h h' e hr d;simp only[a0b,s5,s9]at hr;obtain⟨rfl,rfl,rfl⟩:=hr;exact d
 |ret=>intro Q vs vs' h h' e hr d;simp only[a0b,s5,s9]at hr;obtain⟨rfl,rfl,rfl⟩:=hr;exact d
theorem b5N:∀{h h0:Heap} {pre:Heap},h0.length=h.length→p8 (pre++h0) (allRows pre.length h)=pre++h
 | [],[],pre,_=>by simp[allRows,p8]
 | [],_::_,_,h=>by simp at h
 |_::_,[],_,h=>by simp at h
 |r::h,r0::h0,pre,a=>by
  show p8 ((pre++r0::h0).set pre.length r) (allRows (pre.length+1) h)=_;have e:(pre++r0::h0).set pre.length r=(pre++[r])++h0:=by grind
  rw[e];have:=b5N (h:=h) (h0:=h0) (pre:=pre++[r]) (by simpa using a)
  grind
theorem c6V{P:Program}(hm:P.follows .mixedOrders=true){f:FuncId}{X:u9}(b:a4S P f=some X){ex:Nat}{szs:List Nat}{args:List PV}{r:PV}(hlen:args.length≤X.ntmps)
 (q:F8 (fns P) X.body (b2j X.results szs r) (X.vars.map fun s=>args.getD s .uu) (List.replicate (X.sites+ex) (0,.dead))):Fn P f szs args r:=by
 unfold a4S at b;dsimp only at b;split at b
 . cases b
 . rename_i fn d;split at b
   . cases b
   . rename_i c g;split at b
     . rename_i x k rs t i;split at b
       . rename_i u;obtain⟨v,y,z,D⟩:=u;cases b;refine⟨by unfold a1q;rw[d];simpa[g]using v,fun w Z E A B=>?_⟩;refine(a3V (ρ:=none) (n:=0)).1 (callsIn_of_wp_marks d g trivial ?_);refine b5J hm (a4V y) c 0 k x t _ _ _ _ _ _ q (c0E z A B hlen) fun e vars h a w' j he=>?_;obtain⟨C,l,m,o,p,rfl⟩:=he;cases e with
         |normal=>exact b0S i j m o p
         |ret=>exact b0S i j m o p
         |exit id=>exact C.elim
       . cases b
     . cases b
theorem b5D{P:Program}(hm:P.follows .mixedOrders=true){n ex:Nat}:∀(d:Nat),(∀(f:FuncId) (szs:List Nat) (args:List PV) (r:PV),(a1E P n ex d).fn f szs args=some r→Fn P f szs args r)∧
 (∀(v:PV) (args:List PV) (h:Heap) (r:PV) (ws:List (Nat×Row)),(a1E P n ex d).fi v args h=some (r,ws)→FI P v args h r ws)
 |0=>⟨fun f szs args r h=>(by simp[a1E]at h),fun v args h r ws e=>(by simp[a1E]at e)⟩
 |d+1=>by
  obtain⟨j,k⟩:=b5D hm (n:=n) (ex:=ex) d;refine⟨fun f szs args r h=>?_,fun v args h r ws e=>?_⟩
  . simp only[a1E]at h;split at h
    . rename_i X g;split at h
      . rename_i c;refine c6V hm g (ex:=ex) c ?_;cases a:a0b (a1E P n ex d) n X.body (X.vars.map fun s=>args.getD s .uu) (List.replicate (X.sites+ex) (0,.dead))with
        |none=>rw[a]at h;simp only[b1O]at h;cases h
        |some o=>
         obtain⟨e,vs,hp⟩:=o;rw[a]at h;refine b8V (FN:=fns P) (call:=a1E P n ex d) (n:=n) (fun _ _ _ _ _ h=>h) j k (e:=e) (vs':=vs) (h':=hp) a ?_;cases e with
         |exit id=>simp only[b1O]at h;cases h
         |normal|ret=>
          simp only[b1O]at h;split at h
          . rename_i l i;split at h
            . rename_i b;simp only[E7]at b;simp only[s5]at h;exact⟨trivial,l,i,b.1,b.2,h⟩
            . cases h
          . cases h
      . cases h
    . cases h
  . simp only[a1E]at e;split at e
    . rename_i f first cap
      split at e
      . rename_i X g;split at e
        . rename_i c;rw[E7,decide_eq_true_eq]at c;refine b2P hm g c.1 c.2 ?_;cases a:a0b (a1E P n ex d) n X.body (X.vars.map fun s=>(first++args++cap).getD s .uu) h with
          |none=>rw[a]at e;simp only[b0q]at e;cases e
          |some o=>
           obtain⟨m,vs,hp⟩:=o;rw[a]at e;refine b8V (FN:=fns P) (call:=a1E P n ex d) (n:=n) (fun _ _ _ _ _ h=>h) j k (e:=m) (vs':=vs) (h':=hp) a ?_;cases m with
           |exit id=>simp only[b0q]at e;cases e
           |normal|ret=>
            simp only[b0q]at e;split at e
            . rename_i l i;split at e
              . rename_i b;simp only[E7,beq_iff_eq]at b;simp only[s5,s9]at e;obtain⟨p,q⟩:=e;refine⟨trivial,l,i,b.1,p,?_⟩;rw[←q];have:=b5N (h:=hp) (h0:=h) (pre:=[]) b.2.symm;simpa using this.symm
              . cases e
            . cases e
        . cases e
      . cases e
    . cases e
theorem b1K{P:Program}(hm:P.follows .mixedOrders=true){n ex:Nat}{d:Nat}{f:FuncId}{szs:List Nat}{args:List PV}{r:PV}(h:(a1E P n ex d).fn f szs args=some r):Fn P f szs args r:=
 (b5D hm d).1 f szs args r h
end
section
variable{FN:N0}
theorem a6O{Q Q':B3→Prop}(a:∀st,Q st→Q' st):∀{xs:List l5} {st:B3},E9 FN xs st Q→E9 FN xs st Q'
 | [],st,h=>a _ h
 |x::xs,st,h=>by
  cases b:gdO st.loc st.vars x.guard with
  |none=>simp only[E9,b]at h
  |some c=>
   cases c with
   |false=>simp only[E9,b]at h⊢;exact a6O a h
   |true=>
    cases d:x.op
    case call f args ks al=>
     simp only[E9,b,d]at h⊢;obtain⟨r,h0,h1,e,g⟩:=h;exact⟨r,h0,h1,e,a6O a g⟩
    case callv f args=>
     simp only[E9,b,d]at h⊢;obtain⟨r,ws,h1,e⟩:=h;exact⟨r,ws,h1,a6O a e⟩
    case cally f args=>
     simp only[E9,b,d]at h⊢;exact FN.my (fun _ _ _ h1=>⟨h1.1,a6O a h1.2⟩) h
    all_goals
     simp only[E9,b,d]at h⊢;split at h
     . exact a6O a h
     . exact h.elim
theorem b3B{K K':List PV→Heap→Prop}{Q Q':J0}(c:∀vs h,K vs h→K' vs h)(b:∀e vs h,Q e vs h→Q' e vs h):∀e vs h,a2w K Q e vs h→a2w K' Q' e vs h:=by
 intro e vs h a;cases e with
 |normal=>exact c _ _ a
 |exit id=>exact b _ _ _ a
 |ret=>exact b _ _ _ a
theorem b3O{body:J0→List PV→Heap→Prop}(hb:∀{Q Q':J0},(∀e vs h,Q e vs h→Q' e vs h)→∀{vs h},body Q vs h→body Q' vs h){Q Q':J0}(b:∀e vs h,Q e vs h→Q' e vs h):∀{n:Nat} {vs:List PV} {h:Heap},a3i body Q n vs h→a3i body Q' n vs h
 |0,_,_,a=>a
 |n+1,vs,h,a=>hb (b3B (fun _ _=>b3O hb b) b) a
theorem a5i:∀{c:C6} {Q Q':J0},(∀e vs h,Q e vs h→Q' e vs h)→∀{vs:List PV} {h:Heap},F8 FN c Q vs h→F8 FN c Q' vs h:=by
 intro c
 induction c with
 |skip=>intro Q Q' f vs h d;exact f _ _ _ d
 |reg xs=>intro Q Q' f vs h d;exact⟨d.1,a6O (fun st=>f _ _ _) d.2⟩
 |seq a b m o=>intro Q Q' f vs h d;exact m (b3B (fun _ _=>o f) f) d
 |cond c a b m o=>
  intro Q Q' f vs h d;simp only[F8]at d⊢;split at d
  . exact m f d
  . exact o f d
  . exact d.elim
 |block id b j=>
  intro Q Q' f vs h d;refine j (fun e vs h he=>?_) d;cases e with
  |normal=>exact f _ _ _ he
  |ret=>exact f _ _ _ he
  |exit i=>
   simp only[xin]at he⊢;split at he
   . grind
   . grind
 |loop b j=>
  intro Q Q' f vs h d;obtain⟨n,d⟩:=d;exact⟨n,b3O (body:=F8 FN b) (fun f _ _ hb=>j f hb) f d⟩
 |loopS lv c0 b j=>
  intro Q Q' f vs h d;obtain⟨n,d⟩:=d;exact⟨n,b3O (body:=fun Q vs h=>settled lv c0 vs h (F8 FN b Q)) (fun f _ _ hb=>⟨hb.1,j f hb.2⟩) f d⟩
 |G6 l b j=>intro Q Q' f vs h d;exact j f d
 |G4 v c k sz b j=>intro Q Q' f vs h d;exact j f d
 |rfor g ps a b m o=>intro Q Q' f vs h d;exact FN.mi (fun _ _ h1=>f _ _ _ h1) d
 |exit id=>intro Q Q' f vs h d;exact f _ _ _ d
 |ret=>intro Q Q' f vs h d;exact f _ _ _ d
theorem c6v{σ:Type}(I:σ→List PV→Heap→Prop)(a:σ→Nat){lv:List Nat}{c0:Nat}{b:C6}{Q:J0}{vs:List PV}{h:Heap}(s:σ)(c:settled lv c0 vs h (I s))
 (d:∀s vs h,I s vs h→F8 FN b (a2w (fun vs h=>settled lv c0 vs h fun vs h=>∃s',I s' vs h∧a s'<a s) Q) vs h):F8 FN (.loopS lv c0 b) Q vs h:=by
 have key:∀n s vs h,a s<n→settled lv c0 vs h (I s)→a3i (fun Q vs h=>settled lv c0 vs h (F8 FN b Q)) Q n vs h:=by
  intro n
  induction n with
  |zero=>intro s vs h e;omega
  |succ n f=>
   intro s vs h e hs;refine⟨hs.1,a5i (b3B (fun vs h g=>?_) fun _ _ _=>id) (d s _ _ hs.2)⟩;obtain⟨h1,s',i,j⟩:=g;exact f s' vs h j4 ⟨h1,i⟩
 exact⟨a s+1,key _ s vs h j4 c⟩
end
section
variable{args:List PV}{r f:PV}{ws:List (Nat×Row)}
theorem b5v:∃f:N0→List l5→B3→(B3→Prop)→Prop,f=E9:=⟨_,rfl⟩
noncomputable def Xr:=Classical.choose b5v
theorem a6N:Xr=E9:=Classical.choose_spec b5v
theorem b6X:∃f:N0→C6→J0→List PV→Heap→Prop,f=F8:=⟨_,rfl⟩
noncomputable def Xw:=Classical.choose b6X
theorem a0F:Xw=F8:=Classical.choose_spec b6X
theorem c9I{a b:Int}:(a==b)=decide (a=b):=by grind
theorem c8M{a b:Int}:(a !=b)=!decide (a=b):=by grind
theorem c7p{a b:Nat}:((a:Int)=(b:Int))=(a=b):=by grind
def KN(Q:J0)(st:B3):Prop:=Q .normal st.vars st.heap
def Xo(FN:N0)(o:Option Eff)(var:Option Nat)(xs:List l5)(st:B3)(Q:B3→Prop):Prop:=match o with
 |some (p,ws)=>Xr FN xs ⟨st.loc++[p],I8 st.vars var p,p8 st.heap ws⟩ Q
 |none=>False
def Xc(FN:N0)(f:FuncId)(szs:List Nat)(args:List PV)(own:Bool)(ks:List (Nat×Nat))(hide:List Nat)(var:Option Nat)(xs:List l5)(st:B3)(Q:B3→Prop):Prop:=
 ∃r,FN.fn f szs args r∧a3k st.heap.length ks own r=true∧
  Xr FN xs ⟨st.loc++[T4 (M7 ks) (U0 (l7 st.heap hide)) r],I8 st.vars var (T4 (M7 ks) (U0 (l7 st.heap hide)) r),p8 st.heap (I3 (M7 ks) (U0 (l7 st.heap hide)) 0 (B4 r))⟩ Q
def Xv(FN:N0)(f:PV)(args:List PV)(var:Option Nat)(xs:List l5)(st:B3)(Q:B3→Prop):Prop:=
 ∃r ws,FN.fi f args st.heap r ws∧Xr FN xs ⟨st.loc++[r],I8 st.vars var r,p8 st.heap ws⟩ Q
def Xvh(FN:N0)(hide:List Nat)(f:PV)(args:List PV)(var:Option Nat)(xs:List l5)(st:B3)(Q:B3→Prop):Prop:=
 ∃r ws,((∀h',agr hide st.heap h'→FN.fi f args h' r ws)∧a2e hide (y9 st.loc st.vars) ws=true)∧Xr FN xs ⟨st.loc++[r],I8 st.vars var r,p8 st.heap ws⟩ Q
def Xy(FN:N0)(f:PV)(args:List PV)(var:Option Nat)(xs:List l5)(st:B3)(Q:B3→Prop):Prop:=
 FN.fy f args st.vars st.heap fun r vs h=>h.length=st.heap.length∧Xr FN xs ⟨st.loc++[r],I8 vs var r,h⟩ Q
def a5F(FN:N0)(ps:List (Option Nat))(a b:C6)(vs:List PV):YT:=fun args h1 k=>args.length=ps.length∧Xw FN a (a9l fun c d=>Xw FN b (fun e _ f=>k (a9k e) f) c d) (a6G vs ps args) h1
def Xi(FN:N0)(v:PV)(ps:List (Option Nat))(a b:C6)(Q:J0)(vs:List PV)(h:Heap):Prop:=
 FN.it v (a5F FN ps a b vs) h fun p h'=>Q (unp p) vs h'
def Xe(FN:N0)(op:N3)(var:Option Nat)(hide:List Nat)(xs:List l5)(st:B3)(Q:B3→Prop):Prop:=match op with
 | .call f args ks al=>(al=true→args.all (fun a=>a2K (y9 st.loc st.vars a))=true)∧Xc FN f (ks.map (·.2)) (args.map fun a=>fzV (l7 st.heap hide) (y9 st.loc st.vars a)) ((args.map (y9 st.loc st.vars)).any (a1K (l7 st.heap hide))) ks hide var xs st Q
 | .callv f args=>(match hide with
  | []=>Xv FN (y9 st.loc st.vars f) (args.map (y9 st.loc st.vars)) var xs st Q
  |k::l=>Xvh FN (k::l) (y9 st.loc st.vars f) (args.map (y9 st.loc st.vars)) var xs st Q)
 | .cally f args=>Xy FN (y9 st.loc st.vars f) (args.map (y9 st.loc st.vars)) var xs st Q
 |op=>Xo FN (A9 (y9 st.loc st.vars) (l7 st.heap hide) op) var xs st Q
def Xg(FN:N0)(g:Option Bool)(op:N3)(var:Option Nat)(hide:List Nat)(xs:List l5)(st:B3)(Q:B3→Prop):Prop:=match g with
 |none=>False
 |some false=>Xr FN xs ⟨st.loc++[.tup []],I8 st.vars var (.tup []),st.heap⟩ Q
 |some true=>Xe FN op var hide xs st Q
section
variable{FN:N0}{Q:J0}{vs:List PV}{h:Heap}
theorem c5y{l:List PV}:Xr FN [] ⟨l,vs,h⟩ (KN Q)=Q .normal vs h:=by rw[a6N];rfl
theorem c8f{op:N3}{var:Option Nat}{g:Option (A6×Bool)}{hide:List Nat}{xs:List l5}{l:List PV}{K:B3→Prop}:Xr FN (⟨op,var,g,hide⟩::xs) ⟨l,vs,h⟩ K=Xg FN (gdO l vs g) op var hide xs ⟨l,vs,h⟩ K:=by
 rw[a6N];unfold Xg;cases a:gdO l vs g with
 |none=>simp[E9,a]
 |some b=>
  cases b with
  |false=>rw[a6N];simp[E9,a]
  |true=>
   unfold Xe;cases op
   case callv f args=>cases hide<;>simp only[E9,a,fiH,Xv,Xvh,a6N]
   case call f args ks al=>
    simp only[E9,a,Xc,a6N];exact propext ⟨fun⟨r,h0,h1⟩=>⟨h0,r,h1⟩,fun⟨h0,r,h1⟩=>⟨r,h0,h1⟩⟩
   all_goals (simp only[E9,a,Xo,Xy,a6N]<;>first|rfl|skip)
section
variable{var:Option Nat}{xs:List l5}{K:B3→Prop}{hide:List Nat}{l:List PV}{op:N3}{st:B3}{k:Nat}
theorem g_f:Xg FN (some false) op var hide xs ⟨l,vs,h⟩ K=Xr FN xs ⟨l++[.tup []],I8 vs var (.tup []),h⟩ K:=rfl
theorem g_t:Xg FN (some true) op var hide xs st K=Xe FN op var hide xs st K:=rfl
theorem e_mv{x}:Xe FN (.mv x) var hide xs ⟨l,vs,h⟩ K=Xo FN (A9 (y9 l vs) (l7 h hide) (.mv x)) var xs ⟨l,vs,h⟩ K:=rfl
theorem d1v{c}{a}{b}:Xe FN (.pick c a b) var hide xs ⟨l,vs,h⟩ K=Xo FN (A9 (y9 l vs) (l7 h hide) (.pick c a b)) var xs ⟨l,vs,h⟩ K:=rfl
theorem d0C{k}{zs}:Xe FN (.alloc k zs) var hide xs ⟨l,vs,h⟩ K=Xo FN (A9 (y9 l vs) (l7 h hide) (.alloc k zs)) var xs ⟨l,vs,h⟩ K:=rfl
theorem c7D{k}{x}:Xe FN (.box k x) var hide xs ⟨l,vs,h⟩ K=Xo FN (A9 (y9 l vs) (l7 h hide) (.box k x)) var xs ⟨l,vs,h⟩ K:=rfl
theorem c2Z{zs}{parts}:Xe FN (.build zs parts) var hide xs ⟨l,vs,h⟩ K=Xo FN (A9 (y9 l vs) (l7 h hide) (.build zs parts)) var xs ⟨l,vs,h⟩ K:=rfl
theorem d2c{k}{sz}{zs}{parts}:Xe FN (.mkarr k sz zs parts) var hide xs ⟨l,vs,h⟩ K=Xo FN (A9 (y9 l vs) (l7 h hide) (.mkarr k sz zs parts)) var xs ⟨l,vs,h⟩ K:=rfl
theorem c4m{sz}{zs}{parts}:Xe FN (.lit sz zs parts) var hide xs ⟨l,vs,h⟩ K=Xo FN (A9 (y9 l vs) (l7 h hide) (.lit sz zs parts)) var xs ⟨l,vs,h⟩ K:=rfl
theorem c7T{agg}{sz}{a}:Xe FN (.load agg sz a) var hide xs ⟨l,vs,h⟩ K=Xo FN (A9 (y9 l vs) (l7 h hide) (.load agg sz a)) var xs ⟨l,vs,h⟩ K:=rfl
theorem c9D{agg}{sz}{a}:Xe FN (.loadV agg sz a) var hide xs ⟨l,vs,h⟩ K=Xo FN (A9 (y9 l vs) (l7 h hide) (.loadV agg sz a)) var xs ⟨l,vs,h⟩ K:=rfl
theorem c3X{sz}{a}{v}:Xe FN (.store sz a v) var hide xs ⟨l,vs,h⟩ K=Xo FN (A9 (y9 l vs) (l7 h hide) (.store sz a v)) var xs ⟨l,vs,h⟩ K:=rfl
theorem c2E{x}:Xe FN (.nilchk x) var hide xs ⟨l,vs,h⟩ K=Xo FN (A9 (y9 l vs) (l7 h hide) (.nilchk x)) var xs ⟨l,vs,h⟩ K:=rfl
theorem c3R{op}{bt}{x}{y}:Xe FN (.bin op bt x y) var hide xs ⟨l,vs,h⟩ K=Xo FN (A9 (y9 l vs) (l7 h hide) (.bin op bt x y)) var xs ⟨l,vs,h⟩ K:=rfl
theorem e_un{op}{x}:Xe FN (.un op x) var hide xs ⟨l,vs,h⟩ K=Xo FN (A9 (y9 l vs) (l7 h hide) (.un op x)) var xs ⟨l,vs,h⟩ K:=rfl
theorem c9o{k}{x}:Xe FN (.conv k x) var hide xs ⟨l,vs,h⟩ K=Xo FN (A9 (y9 l vs) (l7 h hide) (.conv k x)) var xs ⟨l,vs,h⟩ K:=rfl
theorem c4H{x}:Xe FN (.convStr x) var hide xs ⟨l,vs,h⟩ K=Xo FN (A9 (y9 l vs) (l7 h hide) (.convStr x)) var xs ⟨l,vs,h⟩ K:=rfl
theorem c5a{k}{sz}{bytes}{z}{len}{cap}:Xe FN (.makeSlice k sz bytes z len cap) var hide xs ⟨l,vs,h⟩ K=Xo FN (A9 (y9 l vs) (l7 h hide) (.makeSlice k sz bytes z len cap)) var xs ⟨l,vs,h⟩ K:=rfl
theorem d0e{st}{sz}{x}{lo}{hi}{mx}:Xe FN (.slice st sz x lo hi mx) var hide xs ⟨l,vs,h⟩ K=Xo FN (A9 (y9 l vs) (l7 h hide) (.slice st sz x lo hi mx)) var xs ⟨l,vs,h⟩ K:=rfl
theorem c8P{off}{x}:Xe FN (.fieldAddr off x) var hide xs ⟨l,vs,h⟩ K=Xo FN (A9 (y9 l vs) (l7 h hide) (.fieldAddr off x)) var xs ⟨l,vs,h⟩ K:=rfl
theorem c2C{agg}{off}{sz}{x}:Xe FN (.field agg off sz x) var hide xs ⟨l,vs,h⟩ K=Xo FN (A9 (y9 l vs) (l7 h hide) (.field agg off sz x)) var xs ⟨l,vs,h⟩ K:=rfl
theorem c8d{sz}{x}{i}:Xe FN (.indexAddr sz x i) var hide xs ⟨l,vs,h⟩ K=Xo FN (A9 (y9 l vs) (l7 h hide) (.indexAddr sz x i)) var xs ⟨l,vs,h⟩ K:=rfl
theorem c5w{n}{sz}{x}{i}:Xe FN (.indexAddrA n sz x i) var hide xs ⟨l,vs,h⟩ K=Xo FN (A9 (y9 l vs) (l7 h hide) (.indexAddrA n sz x i)) var xs ⟨l,vs,h⟩ K:=rfl
theorem c8H{x}{i}:Xe FN (.indexS x i) var hide xs ⟨l,vs,h⟩ K=Xo FN (A9 (y9 l vs) (l7 h hide) (.indexS x i)) var xs ⟨l,vs,h⟩ K:=rfl
theorem d0s{x}{i}:Xe FN (.extract x i) var hide xs ⟨l,vs,h⟩ K=Xo FN (A9 (y9 l vs) (l7 h hide) (.extract x i)) var xs ⟨l,vs,h⟩ K:=rfl
theorem c5J{f}{args}:Xe FN (.cally f args) var hide xs ⟨l,vs,h⟩ K=Xy FN (y9 l vs f) (args.map (y9 l vs)) var xs ⟨l,vs,h⟩ K:=rfl
theorem c7u{f}{args}:Xe FN (.callv f args) var [] xs ⟨l,vs,h⟩ K=Xv FN (y9 l vs f) (args.map (y9 l vs)) var xs ⟨l,vs,h⟩ K:=rfl
theorem c3T{f}{args}:Xe FN (.callv f args) var (k::hide) xs ⟨l,vs,h⟩ K=Xvh FN (k::hide) (y9 l vs f) (args.map (y9 l vs)) var xs ⟨l,vs,h⟩ K:=rfl
end
theorem c9E{hide:List Nat}{var:Option Nat}{xs:List l5}{l:List PV}{K:B3→Prop}(b:∀h',agr hide h h'→FN.fi f args h' r ws)
 (a:a2e hide (y9 l vs) ws=true∧Xr FN xs ⟨l++[r],I8 vs var r,p8 h ws⟩ K):Xvh FN hide f args var xs ⟨l,vs,h⟩ K:=⟨r,ws,⟨b,a.1⟩,a.2⟩
section
variable{var:Option Nat}{hide:List Nat}{xs:List l5}{l:List PV}{K:B3→Prop}
theorem c5A{st}{x}:Xe FN (.len st x) var hide xs ⟨l,vs,h⟩ K=Xo FN (A9 (y9 l vs) (l7 h hide) (.len st x)) var xs ⟨l,vs,h⟩ K:=rfl
theorem c4q{mx}{a}:Xe FN (.minmax mx a) var hide xs ⟨l,vs,h⟩ K=Xo FN (A9 (y9 l vs) (l7 h hide) (.minmax mx a)) var xs ⟨l,vs,h⟩ K:=rfl
theorem c9G{k}{sz}{bytes}{mode}{s}{x}:Xe FN (.append k sz bytes mode s x) var hide xs ⟨l,vs,h⟩ K=Xo FN (A9 (y9 l vs) (l7 h hide) (.append k sz bytes mode s x)) var xs ⟨l,vs,h⟩ K:=rfl
theorem c7l{sz}{d}{s}:Xe FN (.copy sz d s) var hide xs ⟨l,vs,h⟩ K=Xo FN (A9 (y9 l vs) (l7 h hide) (.copy sz d s)) var xs ⟨l,vs,h⟩ K:=rfl
theorem c6S{f}{first}{captured}:Xe FN (.mkfn f first captured) var hide xs ⟨l,vs,h⟩ K=Xo FN (A9 (y9 l vs) (l7 h hide) (.mkfn f first captured)) var xs ⟨l,vs,h⟩ K:=rfl
theorem c8A{k}{zs}:Xe FN (.allocA k zs) var hide xs ⟨l,vs,h⟩ K=Xo FN (A9 (y9 l vs) (l7 h hide) (.allocA k zs)) var xs ⟨l,vs,h⟩ K:=rfl
theorem c7N{k}{x}:Xe FN (.boxA k x) var hide xs ⟨l,vs,h⟩ K=Xo FN (A9 (y9 l vs) (l7 h hide) (.boxA k x)) var xs ⟨l,vs,h⟩ K:=rfl
theorem c6z{n}{a}:Xe FN (.loadA n a) var hide xs ⟨l,vs,h⟩ K=Xo FN (A9 (y9 l vs) (l7 h hide) (.loadA n a)) var xs ⟨l,vs,h⟩ K:=rfl
theorem d2f{n}{a}{v}:Xe FN (.storeA n a v) var hide xs ⟨l,vs,h⟩ K=Xo FN (A9 (y9 l vs) (l7 h hide) (.storeA n a v)) var xs ⟨l,vs,h⟩ K:=rfl
theorem c3B{neg}{ts}{x}{y}:Xe FN (.eqS neg ts x y) var hide xs ⟨l,vs,h⟩ K=Xo FN (A9 (y9 l vs) (l7 h hide) (.eqS neg ts x y)) var xs ⟨l,vs,h⟩ K:=rfl
theorem c5t{neg}{x}{y}:Xe FN (.eqNil neg x y) var hide xs ⟨l,vs,h⟩ K=Xo FN (A9 (y9 l vs) (l7 h hide) (.eqNil neg x y)) var xs ⟨l,vs,h⟩ K:=rfl
theorem c8t{k}{r}:Xe FN (.makeMap k r) var hide xs ⟨l,vs,h⟩ K=Xo FN (A9 (y9 l vs) (l7 h hide) (.makeMap k r)) var xs ⟨l,vs,h⟩ K:=rfl
theorem d1h{kt}{m}{x}{v}:Xe FN (.mapUpd kt m x v) var hide xs ⟨l,vs,h⟩ K=Xo FN (A9 (y9 l vs) (l7 h hide) (.mapUpd kt m x v)) var xs ⟨l,vs,h⟩ K:=rfl
theorem c3i{kt}{ok}{z}{m}{x}:Xe FN (.lookup kt ok z m x) var hide xs ⟨l,vs,h⟩ K=Xo FN (A9 (y9 l vs) (l7 h hide) (.lookup kt ok z m x)) var xs ⟨l,vs,h⟩ K:=rfl
theorem d0Y{k}{kt}{sz}{z}{m}{x}:Xe FN (.lookupT k kt sz z m x) var hide xs ⟨l,vs,h⟩ K=Xo FN (A9 (y9 l vs) (l7 h hide) (.lookupT k kt sz z m x)) var xs ⟨l,vs,h⟩ K:=rfl
theorem b0f{sz}{a}{v}{av}:Xe FN (.storeN sz a v av) var hide xs ⟨l,vs,h⟩ K=Xo FN (A9 (y9 l vs) (l7 h hide) (.storeN sz a v av)) var xs ⟨l,vs,h⟩ K:=rfl
theorem c6j{n}{sz}{x}{lo}{hi}:Xe FN (.sliceV n sz x lo hi) var hide xs ⟨l,vs,h⟩ K=Xo FN (A9 (y9 l vs) (l7 h hide) (.sliceV n sz x lo hi)) var xs ⟨l,vs,h⟩ K:=rfl
theorem c5W{neg}{x}{y}:Xe FN (.eqPtr neg x y) var hide xs ⟨l,vs,h⟩ K=Xo FN (A9 (y9 l vs) (l7 h hide) (.eqPtr neg x y)) var xs ⟨l,vs,h⟩ K:=rfl
theorem c3k{m}:Xe FN (.clearM m) var hide xs ⟨l,vs,h⟩ K=Xo FN (A9 (y9 l vs) (l7 h hide) (.clearM m)) var xs ⟨l,vs,h⟩ K:=rfl
theorem c8w{z}{x}:Xe FN (.clearS z x) var hide xs ⟨l,vs,h⟩ K=Xo FN (A9 (y9 l vs) (l7 h hide) (.clearS z x)) var xs ⟨l,vs,h⟩ K:=rfl
end
theorem d0n{f:FuncId}{args:List A6}{ks:List (Nat×Nat)}{al:Bool}{var:Option Nat}{hide:List Nat}{xs:List l5}{l:List PV}{K:B3→Prop}:Xe FN (.call f args ks al) var hide xs ⟨l,vs,h⟩ K=
 ((al=true→args.all (fun a=>a2K (y9 l vs a))=true)∧Xc FN f (ks.map (·.2)) (args.map fun a=>fzV (l7 h hide) (y9 l vs a)) ((args.map (y9 l vs)).any (a1K (l7 h hide))) ks hide var xs ⟨l,vs,h⟩ K):=rfl
theorem c7O{p:PV}{var:Option Nat}{xs:List l5}{l:List PV}{K:B3→Prop}:Xo FN (some (p,ws)) var xs ⟨l,vs,h⟩ K=Xr FN xs ⟨l++[p],I8 vs var p,p8 h ws⟩ K:=rfl
theorem U5{var:Option Nat}{xs:List l5}{l:List PV}{K:B3→Prop}(a:FN.fi f args h r ws)
 (b:Xr FN xs ⟨l++[r],I8 vs var r,p8 h ws⟩ K):Xv FN f args var xs ⟨l,vs,h⟩ K:=⟨r,ws,a,b⟩
theorem l8{f:FuncId}{szs:List Nat}{own:Bool}{ks:List (Nat×Nat)}{hide:List Nat}{var:Option Nat}{xs:List l5}{l:List PV}{K:B3→Prop}(a:FN.fn f szs args r)
 (b:a3k h.length ks own r=true∧Xr FN xs ⟨l++[T4 (M7 ks) (U0 (l7 h hide)) r],I8 vs var (T4 (M7 ks) (U0 (l7 h hide)) r),p8 h (I3 (M7 ks) (U0 (l7 h hide)) 0 (B4 r))⟩ K):
 Xc FN f szs args own ks hide var xs ⟨l,vs,h⟩ K:=⟨r,a,b⟩
theorem c6C:Xw FN .skip Q vs h=Q .normal vs h:=by rw[a0F];rfl
theorem d1r{xs:List l5}:Xw FN (.reg xs) Q vs h=(a1Q h.length xs=true∧Xr FN xs ⟨[],vs,h⟩ (KN Q)):=by rw[a0F,a6N];rfl
theorem b6T{a b:C6}:Xw FN (.seq a b) Q vs h=Xw FN a (a2w (Xw FN b Q) Q) vs h:=by rw[a0F];rfl
theorem b7Z{c:A6}{a b:C6}(d:y9 [] vs c=.bool true):Xw FN (.cond c a b) Q vs h=Xw FN a Q vs h:=by rw[a0F];simp only[F8,d]
theorem b8C{c:A6}{a b:C6}(d:y9 [] vs c=.bool false):Xw FN (.cond c a b) Q vs h=Xw FN b Q vs h:=by rw[a0F];simp only[F8,d]
theorem d1i{c:A6}{a b:C6}{t:Bool}(d:y9 [] vs c=.bool t)(h1:t=true→Xw FN a Q vs h)(e:t=false→Xw FN b Q vs h):Xw FN (.cond c a b) Q vs h:=by
 cases t
 . rw[b8C d];exact e rfl
 . rw[b7Z d];exact h1 rfl
section
variable{id v k sz i:Nat}{b a:C6}{K:List PV→Heap→Prop}{l:List (Nat×Bool)}{g:A6}{ps:List (Option Nat)}{c:Option Nat}
theorem c7a:Xw FN (.block id b) Q vs h=Xw FN b (xin id Q) vs h:=by rw[a0F];rfl
theorem c7g:Xw FN (.G6 l b) Q vs h=Xw FN b Q vs (a5W l h):=by rw[a0F];rfl
theorem c8v:Xw FN (.rfor g ps a b) Q vs h=Xi FN (y9 [] vs g) ps a b Q vs h:=by unfold Xi a5F;rw[a0F];rfl
theorem c3a:a9l K .normal vs h=K vs h:=rfl
theorem c9s:Xw FN (.G4 v c k sz b) Q vs h=Xw FN b Q (a3j v c k sz vs h).1 (a3j v c k sz vs h).2:=by rw[a0F];rfl
theorem c8p:Xw FN (.exit id) Q vs h=Q (.exit id) vs h:=by rw[a0F];rfl
theorem d0f:Xw FN .ret Q vs h=Q .ret vs h:=by rw[a0F];rfl
theorem d2d:a2w K Q .normal vs h=K vs h:=rfl
theorem c9Y:a2w K Q (.exit id) vs h=Q (.exit id) vs h:=rfl
theorem c6p:a2w K Q .ret vs h=Q .ret vs h:=rfl
theorem c7G:xin id Q .normal vs h=Q .normal vs h:=rfl
theorem d1A:xin id Q (.exit i) vs h=if i=id then Q .normal vs h else Q (.exit i) vs h:=rfl
theorem c3g:xin id Q .ret vs h=Q .ret vs h:=rfl
end
theorem I6{σ:Type}(I:σ→List PV→Heap→Prop)(a:σ→Nat){lv:List Nat}{c0:Nat}{b:C6}(s:σ)(e:settled lv c0 vs h (I s))
 (c:∀s vs h,I s vs h→∀Q':J0,(∀s' vs h,a s'<a s→settled lv c0 vs h (I s')→Q' .normal vs h)→(∀id vs h,Q (.exit id) vs h→Q' (.exit id) vs h)→(∀vs h,Q .ret vs h→Q' .ret vs h)→Xw FN b Q' vs h):Xw FN (.loopS lv c0 b) Q vs h:=by
 rw[a0F]at c⊢;refine c6v I a s e fun s vs h f=>c s vs h f _ (fun s' vs h h1 d=>⟨d.1,s',d.2,h1⟩) (fun _ _ _=>id) fun _ _=>id
theorem b8e{c:C6}{Q Q':J0}(b:∀e vs h,Q e vs h→Q' e vs h)(a:Xw FN c Q vs h):Xw FN c Q' vs h:=by rw[a0F]at a⊢;exact a5i b a
end
section
variable{P:Program}
theorem b3j{vs:List PV}{h:Heap}{var:Option Nat}{xs:List l5}{l:List PV}{K:B3→Prop}(a:FI P f args h r ws)
 (b:Xr (fns P) xs ⟨l++[r],I8 vs var r,p8 h ws⟩ K):Xy (fns P) f args var xs ⟨l,vs,h⟩ K:=⟨r,ws,a,a5v _ _,b⟩
def fin(rs:List (Nat×Option (Bool×Nat)))(szs:List Nat)(r:PV)(vs:List PV)(h:Heap):Prop:=
 ∃l,a2m (l7 h []) vs rs=some l∧a2u (a7l (U7 l))=true∧a3p szs 0 ((U2 (U7 l)).flatMap l6)=true∧rvV (l7 h []) (U7 l)=r
theorem d0P(hm:P.follows .mixedOrders=true){f:FuncId}{X:u9}{s0:Nat}(a:a4S P f=some {X with sites:=s0,body:=strip X.body})(n:Nat){szs:List Nat}(hlen:args.length≤X.ntmps)
 (h:∀Q:J0,(∀vs h,fin X.results szs r vs h→Q .ret vs h)→(∀vs h,fin X.results szs r vs h→Q .normal vs h)→Xw (fns P) X.body Q (X.vars.map fun s=>args.getD s .uu) (List.replicate n (0,.dead))):Fn P f szs args r:=
 b7p hm a (n:=n) hlen (by rw[←a0F];exact h _ (fun _ _ h=>⟨trivial,h⟩) fun _ _ h=>⟨trivial,h⟩)
end
end
section
variable{f:FuncId}{X:u9}{args first cap:List PV}{off:Nat}{h0:Heap}
section
variable{P:Program}
theorem a7k:∀{xs:List l5} {st:B3} {Q:B3→Prop},E9 (fns P) xs st Q→∃a,E9 (fns P) xs st (· =a)∧Q a
 | [],st,Q,h=>⟨st,rfl,h⟩
 |x::xs,st,Q,h=>by
  cases b:gdO st.loc st.vars x.guard with
  |none=>simp only[E9,b]at h
  |some c=>
   cases c with
   |false=>simp only[E9,b]at h⊢;exact a7k h
   |true=>
    cases i:x.op
    case call f args ks al=>
     simp only[E9,b,i]at h⊢;obtain⟨r,h0,h1,j,d⟩:=h;obtain⟨a,e,g⟩:=a7k d;exact⟨a,⟨r,h0,h1,j,e⟩,g⟩
    case callv f args=>
     simp only[E9,b,i]at h⊢;obtain⟨r,ws,h1,d⟩:=h;obtain⟨a,e,g⟩:=a7k d;exact⟨a,⟨r,ws,h1,e⟩,g⟩
    case cally f args=>
     simp only[E9,b,i]at h⊢;obtain⟨r,ws,h1,j,d⟩:=h;obtain⟨a,e,g⟩:=a7k d;exact⟨a,⟨r,ws,h1,j,e⟩,g⟩
    all_goals
     simp only[E9,b,i]at h⊢;split at h
     . exact a7k h
     . exact h.elim
abbrev At(e:O4)(vs:List PV)(h:Heap):J0:=fun a vs' h'=>a=e∧vs'=vs∧h'=h
theorem b2F{body:J0→List PV→Heap→Prop}(hm:∀{Q Q':J0},(∀e vs h,Q e vs h→Q' e vs h)→∀{vs h},body Q vs h→body Q' vs h)(hb:∀{Q:J0} {vs h},body Q vs h→∃e vs' h',body (At e vs' h') vs h∧Q e vs' h'):∀{n:Nat} {Q:J0} {vs:List PV} {h:Heap},a3i body Q n vs h→∃e vs' h',a3i body (At e vs' h') n vs h∧Q e vs' h'
 |0,_,_,_,b=>b.elim
 |n+1,Q,vs,h,b=>by
  obtain⟨e,vs',h',h1,c⟩:=hb (show body (a2w (a3i body Q n) Q) vs h from b);cases e with
  |normal=>
   obtain⟨d,f,g,i,j⟩:=b2F hm hb (show a3i body Q n vs' h' from c);refine⟨d,f,g,hm (fun e v p a=>?_) h1,j⟩;obtain⟨rfl,rfl,rfl⟩:=a;exact i
  |exit id=>exact⟨.exit id,vs',h',hm (fun e v p a=>by obtain⟨rfl,rfl,rfl⟩:=a;exact⟨rfl,rfl,rfl⟩) h1,c⟩
  |ret=>exact⟨.ret,vs',h',hm (fun e v p a=>by obtain⟨rfl,rfl,rfl⟩:=a;exact⟨rfl,rfl,rfl⟩) h1,c⟩
def noX:C6→Bool
 | .seq a b| .cond _ a b=>noX a&&noX b
 | .block _ b| .loop b| .loopS _ _ b| .G6 _ b| .G4 _ _ _ _ b=>noX b
 | .rfor .. =>false
 |_=>true
theorem b3k:∀{c:C6},noX c=true→∀{Q:J0} {vs:List PV} {h:Heap},F8 (fns P) c Q vs h→∃e vs' h',F8 (fns P) c (At e vs' h') vs h∧Q e vs' h':=by
 intro c
 induction c with
 |skip=>intro f Q vs h d;exact⟨.normal,vs,h,⟨rfl,rfl,rfl⟩,d⟩
 |reg xs=>
  intro f Q vs h d;obtain⟨u,h1,g⟩:=a7k d.2;exact⟨.normal,u.vars,u.heap,⟨d.1,a6O (fun st e=>by subst e;exact⟨rfl,rfl,rfl⟩) h1⟩,g⟩
 |seq a b r s=>
  intro f Q vs h d;simp only[noX,E7]at f;obtain⟨e,vs',h',h1,g⟩:=r f.1 (show F8 (fns P) a (a2w (F8 (fns P) b Q) Q) vs h from d);have up:∀j v2 m,a2w (F8 (fns P) b (At j v2 m)) (At j v2 m) e vs' h'→F8 (fns P) (.seq a b) (At j v2 m) vs h:=fun j v2 m q=>
   show F8 (fns P) a (a2w (F8 (fns P) b (At j v2 m)) (At j v2 m)) vs h from a5i (fun e v p t=>by obtain⟨rfl,rfl,rfl⟩:=t;exact q) h1
  cases e with
  |normal=>
   obtain⟨j,w,x,y,z⟩:=s f.2 (show F8 (fns P) b Q vs' h' from g);exact⟨j,w,x,up _ _ _ y,z⟩
  |exit id=>exact⟨.exit id,vs',h',up _ _ _ ⟨rfl,rfl,rfl⟩,g⟩
  |ret=>exact⟨.ret,vs',h',up _ _ _ ⟨rfl,rfl,rfl⟩,g⟩
 |cond c a b r s=>
  intro f Q vs h d;simp only[noX,E7]at f;simp only[F8]at d⊢;split at d
  . exact r f.1 d
  . exact s f.2 d
  . exact d.elim
 |block id b o=>
  intro f Q vs h d;obtain⟨e,vs',h',h1,g⟩:=o f (show F8 (fns P) b (xin id Q) vs h from d);have up:∀j v2 m,xin id (At j v2 m) e vs' h'→F8 (fns P) (.block id b) (At j v2 m) vs h:=fun j v2 m q=>
   show F8 (fns P) b (xin id (At j v2 m)) vs h from a5i (fun e v p t=>by obtain⟨rfl,rfl,rfl⟩:=t;exact q) h1
  cases e with
  |normal=>exact⟨.normal,vs',h',up _ _ _ ⟨rfl,rfl,rfl⟩,g⟩
  |ret=>exact⟨.ret,vs',h',up _ _ _ ⟨rfl,rfl,rfl⟩,g⟩
  |exit i=>
   simp only[xin]at g;split at g
   . rename_i e;exact⟨.normal,vs',h',up _ _ _ (by simp only[xin];rw[if_pos e];exact⟨rfl,rfl,rfl⟩),g⟩
   . rename_i e;exact⟨.exit i,vs',h',up _ _ _ (by simp only[xin];rw[if_neg e];exact⟨rfl,rfl,rfl⟩),g⟩
 |loop b o=>
  intro f Q vs h d;obtain⟨n,d⟩:=d;obtain⟨e,vs',h',h1,g⟩:=b2F (body:=F8 (fns P) b) (fun q _ _ hb=>a5i q hb) (fun hb=>o f hb) d;exact⟨e,vs',h',⟨n,h1⟩,g⟩
 |loopS lv c0 b o=>
  intro f Q vs h d;obtain⟨n,d⟩:=d;obtain⟨e,vs',h',h1,g⟩:=b2F (body:=fun Q vs h=>settled lv c0 vs h (F8 (fns P) b Q)) (fun q _ _ hb=>⟨hb.1,a5i q hb.2⟩) (fun hb=>by obtain⟨e,vs',h',h1,g⟩:=o f hb.2;exact⟨e,vs',h',⟨hb.1,h1⟩,g⟩) d
  exact⟨e,vs',h',⟨n,h1⟩,g⟩
 |G6 l b o=>
  intro f Q vs h d;exact o f (show F8 (fns P) b Q vs (a5W l h)from d)
 |G4 v c k sz b o=>
  intro f Q vs h d;exact o f (show F8 (fns P) b Q (a3j v c k sz vs h).1 (a3j v c k sz vs h).2 from d)
 |rfor=>intro f;simp[noX]at f
 |exit id=>intro f Q vs h d;exact⟨.exit id,vs,h,⟨rfl,rfl,rfl⟩,d⟩
 |ret=>intro f Q vs h d;exact⟨.ret,vs,h,⟨rfl,rfl,rfl⟩,d⟩
end
theorem a3u{P:Program}{φ:PV→Prop}(hm:P.follows .mixedOrders=true){s0:Nat}(c:a4S P f=some {X with sites:=s0,body:=strip X.body})(n:Nat){szs:List Nat}(hlen:args.length≤X.ntmps)
 (d:noX X.body=true) (h:∀Q:J0,(∀r vs h,φ r→fin X.results szs r vs h→Q .ret vs h)→(∀r vs h,φ r→fin X.results szs r vs h→Q .normal vs h)→Xw (fns P) X.body Q (X.vars.map fun s=>args.getD s .uu) (List.replicate n (0,.dead))):∃r,φ r∧Fn P f szs args r:=by
 have b:=h (fun e vs h=>∃r,φ r∧b2j X.results szs r e vs h) (fun r vs h h1 a=>⟨r,h1,trivial,a⟩) (fun r vs h h1 a=>⟨r,h1,trivial,a⟩);rw[a0F]at b;obtain⟨e,vs',h',h1,r,a,g⟩:=b3k d b;exact⟨r,a,b7p hm c (n:=n) hlen (a5i (fun e v p i=>by obtain⟨rfl,rfl,rfl⟩:=i;exact g) h1)⟩
theorem F5{FN:N0}{Q:J0}{vs:List PV}{h:Heap}{σ:Type}(I:σ→List PV→Heap→Prop)(a:σ→Nat){b:C6}(s:σ)(d:I s vs h)
 (c:∀s vs h,I s vs h→∀Q':J0,(∀s' vs h,a s'<a s→I s' vs h→Q' .normal vs h)→(∀id vs h,Q (.exit id) vs h→Q' (.exit id) vs h)→(∀vs h,Q .ret vs h→Q' .ret vs h)→Xw FN b Q' vs h):Xw FN (.loop b) Q vs h:=by
 rw[a0F]at c⊢;have key:∀n s vs h,a s<n→I s vs h→a3i (F8 FN b) Q n vs h:=by
  intro n
  induction n with
  |zero=>intro s vs h e;omega
  |succ n f=>
   intro s vs h e hs;exact c s vs h hs _ (fun s' vs h h1 g=>f s' vs h j4 g) (fun _ _ _=>id) fun _ _=>id
 exact⟨a s+1,key _ s vs h j4 d⟩
def L3(rs:List (Nat×Option (Bool×Nat)))(r:PV)(h0:Heap)(ws:List (Nat×Row))(vs:List PV)(h:Heap):Prop:=
 ∃l,a2m (l7 h []) vs rs=some l∧(l.length==1||l.all a2c)=true∧U7 l=r∧h=p8 h0 ws
theorem c0Y{P:Program}{φ:PV→List (Nat×Row)→Prop}(hm:P.follows .mixedOrders=true)(c:L9 P f off=some X)(hlen:(first++args++cap).length≤X.ntmps)(d:(first.all one&&cap.all one)=true)
 (g:noX X.body=true) (h:∀Q:J0,(∀r ws vs h,φ r ws→L3 X.results r h0 ws vs h→Q .ret vs h)→(∀r ws vs h,φ r ws→L3 X.results r h0 ws vs h→Q .normal vs h)→Xw (fns P) X.body Q (X.vars.map fun s=>(first++args++cap).getD s .uu) h0):∃r ws,φ r ws∧FI P (.fn (.func f) first cap) args h0 r ws:=by
 have b:=h (fun e vs h=>∃r ws,φ r ws∧b0V X.results r h0 ws e vs h) (fun r ws vs h h1 a=>⟨r,ws,h1,trivial,a⟩) (fun r ws vs h h1 a=>⟨r,ws,h1,trivial,a⟩);rw[a0F]at b;obtain⟨e,vs',h',h1,r,ws,a,i⟩:=b3k g b;exact⟨r,ws,a,b2P hm c hlen d (a5i (fun e v p j=>by obtain⟨rfl,rfl,rfl⟩:=j;exact i) h1)⟩
theorem a7Q{P:Program}(hm:P.follows .mixedOrders=true)(a:L9 P f off=some X){r:PV}{ws:List (Nat×Row)}(hlen:(first++args++cap).length≤X.ntmps)(b:(first.all one&&cap.all one)=true)
 (h:∀Q:J0,(∀vs h,L3 X.results r h0 ws vs h→Q .ret vs h)→(∀vs h,L3 X.results r h0 ws vs h→Q .normal vs h)→Xw (fns P) X.body Q (X.vars.map fun s=>(first++args++cap).getD s .uu) h0):FI P (.fn (.func f) first cap) args h0 r ws:=
 b2P hm a hlen b (by rw[←a0F];exact h _ (fun _ _ h=>⟨trivial,h⟩) fun _ _ h=>⟨trivial,h⟩)
theorem a3q{P:Program}(hm:P.follows .mixedOrders=true){s0:Nat}(a:L9 P f off=some {X with sites:=s0,body:=strip X.body})(b:a2n X.body=true){r:PV}{ws:List (Nat×Row)}(hlen:(first++args++cap).length≤X.ntmps)(c:(first.all one&&cap.all one)=true)
 (h:∀Q:J0,(∀vs h,L3 X.results r h0 ws vs h→Q .ret vs h)→(∀vs h,L3 X.results r h0 ws vs h→Q .normal vs h)→Xw (fns P) X.body Q (X.vars.map fun s=>(first++args++cap).getD s .uu) h0):FI P (.fn (.func f) first cap) args h0 r ws:=
 b5W hm a b hlen c (by rw[←a0F];exact h _ (fun _ _ h=>⟨trivial,h⟩) fun _ _ h=>⟨trivial,h⟩)
end
def gOf:Option O4→PV
 |none=>.uu
 |some .ret=>.int .i64 0
 |some (.exit id)=>.int .i64 ((id:Int)+1)
 |some .normal=>.int .i64 (-1)
theorem b6r{p q:Option O4}(h:gOf p=gOf q):p=q:=by
 rcases p with _|p
 . rcases q with _|q
   . rfl
   . cases q<;>cases h
 . rcases q with _|q
   . cases p<;>cases h
   . cases p<;>cases q<;>simp only[gOf,PV.int.injEq,true_and]at h<;>first|rfl|omega|skip
     grind
def a9E(Y:YT):Prop:=∀(args:List PV) (h:Heap) (k a:Option O4→Heap→Prop),(∀p h,k p h→a p h)→Y args h k→Y args h a
def fnY(P:Program)(l n:Nat)(Y:YT)(hm:a9E Y):N0:=
 ⟨Fn P,FI P,fun v args vars h K=>fyI P v args vars h K∨(v=.fn (.yield l) [] []∧vars.getD n .uu=gOf none∧vars.length=n+1∧Y args h fun p h'=>K (.bool p.isNone) (vars.set n (gOf p)) h'),IT P,
  fun a h=>h.imp (fun⟨r,ws,h1,b⟩=>⟨r,ws,h1,a _ _ _ b⟩) fun⟨h1,b,c,d⟩=>⟨h1,b,c,hm _ _ _ _ (fun _ _=>a _ _ _) d⟩,fun a h=>h.mono a⟩
section
variable{P:Program}{B:Nat}{Z0:Nat→Prop}{G G':Gh}{h h':Heap}{w w':World}
theorem d1k{F:Fence}{n l:Nat}{c:Array Value}{R R':Ending→World→Prop}(hr:∀e w,R e w→R' e w)(d:YieldAt F n P l c w R):YieldAt F n P l c w R':=by obtain⟨fn,t,a,b,h1,f⟩:=d;exact⟨fn,t,a,b,h1,f.mono hr⟩
theorem c5S{vs:List Nat}{N:Nat}:∀{c:Code} {k f:Nat} {x:C6},E4 P vs N k c=some (x,f)→noX x=true→Z4 c=true:=by
 intro c
 induction c with
 |seq a b i j=>
  intro k f x d e;simp only[E4]at d;split at d
  . rename_i h1;split at d
    . rename_i l;cases d;simp only[noX,E7]at e;simp only[Z4,E7]
      grind
    . cases d
  . cases d
 |cond m a b i j=>
  intro k f x d e;simp only[E4]at d;split at d
  . rename_i h1;split at d
    . rename_i l;split at d
      . cases d;simp only[noX,E7]at e;simp only[Z4,E7]
        grind
      . cases d
    . cases d
  . cases d
 |block id b h=>
  intro k f x d e;simp only[E4]at d;split at d
  . rename_i h1;cases d;exact h h1 e
  . cases d
 |loop b h=>
  intro k f x d e;simp only[E4]at d;split at d
  . rename_i h1;cases d;exact h h1 e
  . cases d
 |scope b h=>intro k f x d e;exact h (show E4 P vs N k b=_ from d) e
 |rangeFunc g ps a b i j=>
  intro k f x d e;simp only[E4]at d;split at d
  . split at d
    . split at d
      . split at d
        . cases d;simp[noX]at e
        . cases d
      . cases d
    . cases d
  . cases d
 |_=>intros;rfl
theorem c5R:∀{x:C6},noX (I0 x)=noX x:=by
 intro x
 induction x<;>simp_all [I0,noX]
def M8.it(w:World)(B:Nat)(Z0:Nat→Prop)(G0:Gh)(h0:Heap)(a:Option O4→Gh→Heap→World→Prop)
 (f:∀{p:Option O4} {G:Gh} {h:Heap} {w:World} {G':Gh} {h':Heap} {w':World},a p G h w→Ext G h w G' h' w'→Bl B w w'→a p G' h' w')
 (i:∀{Z0:Nat→Prop} {p:Option O4} {G:Gh} {h:Heap} {w1 w2:World},s6 B Z0 G h w1→a p G h w1→Y5 w.heap.size w1 w2→a p G h w2):M8 B:=
 ⟨w.heap.size,fun g G h w'=>∃p,g=gOf p∧Ext G0 h0 w G h w'∧a p G h w'∧w.heap.size≤w'.heap.size,fun⟨_,_,_,_,h⟩=>h,
  fun⟨p,h1,c,d,e⟩ x b=>⟨p,h1,c.trans x,f d x b,U3 e b.size⟩,
  fun r ⟨p,h1,c,d,e⟩ s=>⟨p,h1,c.trans (r.cells (by rw[s.size];exact p7 _) s.cells).2,i r d s,by rw[s.size];exact e⟩⟩
theorem c0F(hm:P.follows .mixedOrders=true){f:FuncId}{off:Nat}{X:u9}{s0:Nat}(b:L9 P f off=some {X with sites:=s0,body:=I0 X.body})(A:X.results=[])(C:noX X.body=true){cap:List PV}{Y:YT}(q:a9E Y){K:Option O4→Heap→Prop}{h0:Heap}
 (hlen:cap.length+1≤X.ntmps) (W:cap.all one=true)
 (E:∀(l:Nat) (Q:J0),(∀p vs h,vs.getD X.vars.length .uu=gOf p→K p h→Q .ret vs h)→(∀p vs h,vs.getD X.vars.length .uu=gOf p→K p h→Q .normal vs h)→
  Xw (fnY P l X.vars.length Y q) X.body Q ((X.vars.map fun s=>(.fn (.yield l) [] []::cap).getD s .uu)++[gOf none]) h0):IT P (.fn (.func f) [] cap) Y h0 K:=by
 unfold L9 at b;dsimp only at b;split at b
 . cases b
 . rename_i fn F;split at b
   . cases b
   . rename_i c H;split at b
     . rename_i x k rs r Z;split at b
       . rename_i aa;obtain⟨ab,ac,ad,aD⟩:=aa;obtain⟨aE,aF,aG,aH,ae⟩:=X;simp only[s5,u9.mk.injEq]at b;obtain⟨rfl,rfl,rfl,rfl,af⟩:=b;rw[af]at r;simp only at A hlen E C;subst A;refine⟨f,cap,rfl,by unfold a1q;rw[F];simpa[H]using ab,W,fun B Z0 G0 w o l t hr I J y ag hΨ=>?_⟩;refine(a3V (ρ:=none) (n:=0)).1 (callsIn_of_wp_marks F H trivial ?_);have aI:(#[.func (.yield l) #[] #[]]++o:Array Value).size=cap.length+1:=(by simp[I.1];omega);have aJ:∀(i:Nat) p,(PV.fn (.yield l) [] []::cap)[i]?=some p→∃u,(#[.func (.yield l) #[] #[]]++o:Array Value)[i]?=some u∧j9 G0 h0 w D u p:=fun i p hp=>by
          cases i with
          |zero=>
           simp at hp;subst hp;refine⟨.func (.yield l) #[] #[],(a2W (by grind)).trans rfl,?_⟩;unfold D;unfold j9;exact⟨_,_,rfl,⟨rfl,fun i c b=>by simp at b⟩,⟨rfl,fun i c b=>by simp at b⟩⟩
          |succ i=>
           obtain⟨u,ah,ai⟩:=I.2 i p (by simpa using hp);refine⟨u,?_,ai⟩;rw[a5m k8];simpa using ah
         have aj:∀(l:List PV) (g:PV) (n:Nat),l.length=n→(l++[g]).getD n .uu=g:=fun l g n e=>by subst e;simp[B0]
         have hi:N5 B Z0 (M8.it w B Z0 G0 h0 t J y) (varsOf fn c) fn.ntmps (((varsOf fn c).map fun s=>(.fn (.yield l) [] []::cap).getD s .uu)++[gOf none]) h0 {tmps:=(#[.func (.yield l) #[] #[]]++o)++Array.replicate (fn.ntmps-(#[.func (.yield l) #[] #[]]++o:Array Value).size) undef,defers:=[]} w:=by
          refine⟨G0,hr,fun i s hs=>?_,by rw[a6V,Array.size_replicate];omega,a0p.nil,none,aj _ _ _ k8,Ext.refl,hΨ,p7 _⟩;have aK:s<fn.ntmps:=(by simpa[a1J]using B5.1 ad s (D0 hs));rw[B0,a1k (by grind),H6,hs];simp only[a2Y,a4L];by_cases aL:s<(PV.fn (.yield l) [] []::cap).length
          . grind
          . refine⟨undef,?_,?_⟩
            . grind
            . rw[B0,a0i j4];exact K6
         have ak:a7h P B Z0 (M8.it w B Z0 G0 h0 t J y) none (varsOf fn c) (fnY P l (varsOf fn c).length Y q).fy:=by
          rintro v args vars h1 K1 (al|⟨rfl,am,aM,an⟩) G1 w1 u aN r1 L hu M
          . exact a6l al r1 L hu M
          . right
            unfold D at hu;unfold j9 at hu;obtain⟨a1,a2,rfl,a3,a4⟩:=hu;have d:a1= #[]:=b2b (by simpa using a3.1);have j:a2= #[]:=b2b (by simpa using a4.1);subst d;subst j;obtain⟨ao,g1,g2,g3,g4⟩:=L;have ap:ao=none:=b6r (by rw[←g1];exact am);subst ap;refine⟨l,rfl,fun n=>d1k ?_ (ag an r1 g3 M n)⟩;rintro e w2 ⟨p,z,G2,rfl,aq,ar,N,au,aO,av⟩;refine⟨.bool p.isNone,vars.set (varsOf fn c).length (gOf p),z,.bool p.isNone,G2,rfl,aq,fun k O=>?_,ar,N,a1o,⟨p,?_,g2.trans N,au,j4⟩,fun aP hd=>av _ _ hd⟩
            . grind
            . unfold W3;rw[B0,E8 j4];rfl
         refine b3h (FN:=fnY P l (varsOf fn c).length Y q) hm (a4V ac) rfl rfl ak c (c5S r (by rw[c5R];exact C)) off k ae r (fun e vs h=>(match e with| .exit _=>False|_=>True)∧∃p,vs.getD (varsOf fn c).length .uu=gOf p∧K p h) _ _ _ _ _ (by have:=E l (fun e vs h=>(match e with| .exit _=>False|_=>True)∧∃p,vs.getD (varsOf fn c).length .uu=gOf p∧K p h) (fun p vs h d j=>⟨trivial,p,d,j⟩) (fun p vs h d j=>⟨trivial,p,d,j⟩);rw[a0F]at this;exact this) hi fun e vars h a w' aw he=>?_
         obtain⟨ax,p,ay,az⟩:=he;have key:LeavesInM (fz none) 0 P fn a.tmps (fun e w'=>∃u p h' G',e=.returned u∧K p h'∧s6 B Z0 G' h' w'∧Ext G0 h0 w G' h' w'∧t p G' h' w') a.defers .returning w':=by
          obtain⟨G,R,i2,i3,⟨Ds,d1,d2,d3⟩,S,g1,g2,g3,g4⟩:=aw;have aA:S=p:=b6r (by rw[←g1];exact ay);subst aA;rw[d2];refine a8U (m:=w.heap.size) Ds w' d1 d3 fun T hs=>?_;obtain⟨U,V⟩:=R.cells (w':=T) (by rw[hs.size];exact p7 _) hs.cells;have aB:V9 G h T (varsOf fn c) vars a:=fun k s O=>by obtain⟨v,h1,z⟩:=i2 k s O;exact⟨v,h1,z.ext V⟩
          obtain⟨u,aC,_⟩:=b1N (P:=P) (fn:=fn) U aB Z (l:=[]) rfl;exact⟨u,aC,u,S,h,G,rfl,az,U,g2.trans V,y R g3 hs⟩
         cases e with
         |normal=>exact key
         |ret=>exact key
         |exit id=>exact ax.elim
       . cases b
     . cases b
end
theorem b3d{FN:N0}{ps:List (Option Nat)}{a b:C6}{vs:List PV}:a9E (a5F FN ps a b vs):=fun _ _ _ _ d c=>
 ⟨c.1,b8e (fun e vs h he=>by
  cases e with
  |normal=>exact b8e (fun e vs h he=>d _ _ he) (show Xw FN b _ vs h from he)
  |exit id=>exact he.elim
  |ret=>exact he.elim) c.2⟩
section
variable{P:Program}{Q:J0}{vs:List PV}{h:Heap}
theorem b3b(hm:P.follows .mixedOrders=true){f:FuncId}{off s0:Nat}{X:u9}(d:L9 P f off=some {X with sites:=s0,body:=I0 X.body})(e:X.results=[])(g:noX X.body=true){cap:List PV}{ps:List (Option Nat)}{a b:C6}(hlen:cap.length+1≤X.ntmps)(i:cap.all one=true)
 (j:∀(l:Nat) (Q2:J0),(∀p c h,c.getD X.vars.length .uu=gOf p→Q (unp p) vs h→Q2 .ret c h)→(∀p c h,c.getD X.vars.length .uu=gOf p→Q (unp p) vs h→Q2 .normal c h)→
  Xw (fnY P l X.vars.length (a5F (fns P) ps a b vs) b3d) X.body Q2 ((X.vars.map fun s=>(.fn (.yield l) [] []::cap).getD s .uu)++[gOf none]) h):
 Xi (fns P) (.fn (.func f) [] cap) ps a b Q vs h:=c0F hm d e g b3d hlen i j
theorem a5c{l n:Nat}{Y:YT}{hm:a9E Y}{args:List PV}{var:Option Nat}{xs:List l5}{loc:List PV}{K:B3→Prop}(h1:vs.getD n .uu=gOf none)(a:vs.length=n+1)
 (b:Y args h fun p h'=>h'.length=h.length∧Xr (fnY P l n Y hm) xs ⟨loc++[.bool p.isNone],I8 (vs.set n (gOf p)) var (.bool p.isNone),h'⟩ K):Xy (fnY P l n Y hm) (.fn (.yield l) [] []) args var xs ⟨loc,vs,h⟩ K:=.inr ⟨rfl,h1,a,b⟩
end
section
section
variable{k g o gl l K G V I J i j ver:Nat}{es cs a c vs ks:List PV}{s:ByteArray}{n:Int}{b:Bool}{v:Value}{f:Go.Fn}
@[simp] theorem d4t:A7 (.bool b)=true:=rfl
@[simp] theorem d4y{k:IntKind}:A7 (.int k n)=true:=rfl
@[simp] theorem d4v:A7 (.str s)=true:=rfl
@[simp] theorem d2V:A7 (.lit v)=true:=rfl
@[simp] theorem d2M:A7 (.nils)=false:=rfl
@[simp] theorem d3x:A7 (.slc es)=true:=rfl
@[simp] theorem d2K{s:Nat}:A7 (.own k g gl s o l)=false:=rfl
@[simp] theorem d2Y:A7 (.ptr k g o)=false:=rfl
@[simp] theorem d3y{s:Nat}:A7 (.eptr k g gl s i j)=false:=rfl
@[simp] theorem d3i:A7 (.fptr cs)=true:=rfl
@[simp] theorem d4A:A7 .ne=false:=rfl
@[simp] theorem d3c:I7 (.bool b)=false:=rfl
@[simp] theorem d4a{k:IntKind}:I7 (.int k n)=false:=rfl
@[simp] theorem d2x:I7 (.str s)=false:=rfl
@[simp] theorem d3r:I7 (.nils)=true:=rfl
@[simp] theorem d4N:I7 (.slc es)=false:=rfl
@[simp] theorem d4J:I7 (.uslc es)=true:=rfl
@[simp] theorem d3V{s:Nat}:I7 (.own k g gl s o l)=false:=rfl
@[simp] theorem d2j:I7 .ne=false:=rfl
@[simp] theorem d2n:one (.bool b)=true:=rfl
@[simp] theorem d3a{k:IntKind}:one (.int k n)=true:=rfl
@[simp] theorem d2A:one (.str s)=true:=rfl
@[simp] theorem d4c:one (.lit v)=true:=rfl
@[simp] theorem d4i:one (.nils)=true:=rfl
@[simp] theorem d4j:one (.slc es)=true:=rfl
@[simp] theorem d2P{s:Nat}:one (.own k g gl s o l)=true:=rfl
@[simp] theorem d3v:one (.ptr k g o)=true:=rfl
@[simp] theorem d2E{s:Nat}:one (.eptr k g gl s i j)=true:=rfl
@[simp] theorem d4Y:one (.fptr cs)=true:=rfl
@[simp] theorem d2J:one (.agg cs)=false:=rfl
@[simp] theorem d4e:one (.fn f a c)=(a.all Y1&&c.all Y1):=rfl
@[simp] theorem d3e:Y1 (.ptr k g o)=true:=rfl
@[simp] theorem d2Z:isStr (.str s)=true:=rfl
@[simp] theorem d4W:isStr (.nils)=false:=rfl
@[simp] theorem d4V:isStr (.slc es)=false:=rfl
@[simp] theorem d3A{s:Nat}:isStr (.own k g gl s o l)=false:=rfl
@[simp] theorem d3B:isStr (.nown k g ver i j o l)=false:=rfl
@[simp] theorem d3Y:isStr .ne=false:=rfl
@[simp] theorem d3g:b0o (.nils)=false:=rfl
@[simp] theorem d5f{s:Nat}:b0o (.own k g gl s o l)=true:=rfl
@[simp] theorem d4m:b0o .ne=false:=rfl
@[simp] theorem d5b:l6 (.bool b)=[.bool b]:=rfl
@[simp] theorem d2h:U2 (.bool b)=[.bool b]:=rfl
@[simp] theorem d4b:B6 (.bool b)=(.bool b):=rfl
@[simp] theorem d2N:D9 (.bool b)=true:=rfl
@[simp] theorem d4X:ldC K G V I J (.bool b)=(.bool b):=rfl
@[simp] theorem d4T:a2I (.bool b)=true:=rfl
@[simp] theorem d5c{k:IntKind}:l6 (.int k n)=[.int k n]:=rfl
@[simp] theorem d4R{k:IntKind}:U2 (.int k n)=[.int k n]:=rfl
@[simp] theorem d2W{k:IntKind}:K5 (.int k n)=(.int k n):=rfl
@[simp] theorem d4s{k:IntKind}:B6 (.int k n)=(.int k n):=rfl
@[simp] theorem d3X{k:IntKind}:D9 (.int k n)=true:=rfl
@[simp] theorem d4H{k:IntKind}:ldC K G V I J (.int k n)=(.int k n):=rfl
@[simp] theorem d3J{k:IntKind}:a6F (.int k n)=true:=rfl
@[simp] theorem d2L{k:IntKind}:a2I (.int k n)=true:=rfl
@[simp] theorem d2X:l6 (.str s)=[.str s]:=rfl
@[simp] theorem d4E:U2 (.str s)=[.str s]:=rfl
@[simp] theorem d3p:K5 (.str s)=(.str s):=rfl
@[simp] theorem d4C:B6 (.str s)=(.str s):=rfl
@[simp] theorem d3d:D9 (.str s)=true:=rfl
@[simp] theorem d4D:ldC K G V I J (.str s)=(.str s):=rfl
@[simp] theorem d2S:a6F (.str s)=true:=rfl
@[simp] theorem d2T:a2I (.str s)=true:=rfl
@[simp] theorem d3I:l6 (.nils)=[.nils]:=rfl
@[simp] theorem d3U:B6 (.nils)=(.slc []):=rfl
@[simp] theorem d4Q:D9 (.nils)=true:=rfl
@[simp] theorem d4n:ldC K G V I J (.nils)=(.nils):=rfl
@[simp] theorem d3K:a2I (.nils)=true:=rfl
@[simp] theorem d3R:l6 (.slc es)=[.slc es]:=rfl
@[simp] theorem d4B:U2 (.slc es)=[.slc es]:=rfl
@[simp] theorem d3z:K5 (.slc es)=(.slc es):=rfl
@[simp] theorem d3o:B6 (.slc es)=(.slc es):=rfl
@[simp] theorem d4h:D9 (.slc es)=true:=rfl
@[simp] theorem d4x:ldC K G V I J (.slc es)=(.slc es):=rfl
@[simp] theorem d4f:a2I (.slc es)=false:=rfl
@[simp] theorem d3D:l6 (.uslc es)=[.uslc es]:=rfl
@[simp] theorem d2Q:U2 (.uslc es)=[.uslc es]:=rfl
@[simp] theorem d2t:K5 (.uslc es)=(.slc es):=rfl
@[simp] theorem d3L:ldC K G V I J (.uslc es)=(.nown K G V I J 0 es.length):=rfl
@[simp] theorem d4u:a2I (.uslc es)=(es.all fun e=>(l6 e).all a6F):=rfl
@[simp] theorem d3m{s:Nat}:l6 (.own k g gl s o l)=[.own k g gl s o l]:=rfl
@[simp] theorem d3Q{s:Nat}:U2 (.own k g gl s o l)=[.own k g gl s o l]:=rfl
@[simp] theorem d4F{s:Nat}:ldC K G V I J (.own k g gl s o l)=(.own k g gl s o l):=rfl
@[simp] theorem d4k:l6 (.ptr k g o)=[.ptr k g o]:=rfl
@[simp] theorem d4G:ldC K G V I J (.ptr k g o)=(.ptr k g o):=rfl
@[simp] theorem d5e{s:Nat}:l6 (.eptr k g gl s i j)=[.eptr k g gl s i j]:=rfl
@[simp] theorem d4L:l6 (.fptr cs)=[.fptr cs]:=rfl
@[simp] theorem d3h:U2 (.fptr cs)=[.fptr cs]:=rfl
@[simp] theorem d2C:a2I (.fptr cs)=false:=rfl
@[simp] theorem d2D:l6 (.agg cs)=cs:=rfl
@[simp] theorem d4w:U2 (.agg cs)=[.agg cs]:=rfl
@[simp] theorem d3w:B6 (.agg cs)=(.agg (cs.map K5)):=rfl
@[simp] theorem d3T:D9 (.agg cs)=(cs.all fun c=>A7 c||I7 c):=rfl
@[simp] theorem d4P:U2 (.tup vs)=vs:=rfl
@[simp] theorem d3l:l6 (.fn f a c)=[.fn f a c]:=rfl
@[simp] theorem d5a:l6 .ne=[.ne]:=rfl
@[simp] theorem d2m:ldC K G V I J .ne=.ne:=rfl
@[simp] theorem d2i:A7 (.M6 ks vs)=true:=rfl
@[simp] theorem d2z:one (.mapv k g)=true:=rfl
@[simp] theorem d3q:l6 (.mapv k g)=[.mapv k g]:=rfl
end
end
theorem b3G{p:PV→Prop}(l:List Bool)(h:∀b,p (.bool b)):∀x,x∈List.map PV.bool l→p x:=fun x a=>by obtain⟨b,_,rfl⟩:=G7.1 a;exact h b
@[simp ↓] theorem d2w(l:List Bool):(∀x,x∈List.map PV.bool l→D9 x=true)=True:=eq_true (b3G l fun _=>rfl)
@[simp] theorem d2s:B6∘PV.bool=PV.bool:=rfl
@[simp] theorem d3F(k:IntKind):B6∘PV.int k=PV.int k:=rfl
theorem b3U(l:List Int):a0n (l.map (PV.int .u8))=some (l.map fun n=>UInt8.ofNat n.toNat):=by
 induction l with
 |nil=>rfl
 |cons a l b=>simp[a0n,a6R,b]
@[simp] theorem d2l{α β:Type}(f:α→β)(l:List α):List.take l.length (List.map f l)=List.map f l:=a0t k8
attribute [simp] b3U c9s a3j c8v c3a c5J a6G a9k unp c7g c9I c8M c7p c6C c5y c8f g_f g_t d0n c7O d1r b6T b7Z b8C c7a c8p d0f d2d c9Y c6p c7G d1A c3g e_mv d1v d0C c7D c2Z d2c c4m c7T c9D c3X c2E c3R e_un c9o c4H c5a d0e c8P c2C c8d c5w c8H d0s c7u c5A c4q c9G c7l c6S c8A c7N c6z d2f c3B c5t c5W c6j b0f c3T c3k c8w c8t d1h c3i d0Y
attribute [simp] P1 a3X ghI a8M a8A b1Y b0P a2K a1X a2e avO a9R b0X a7p a7E gdO y9 A9 I8 b0W a6H unP p8 a1Q I1 l7 a0o a2y a9W a4s a7b sliceB asInt a1N fzV fzC fzP settled sKs b2p b2M c0V a9h c1d ren a8s a0r b0d a6k a3H sVs sOk a2u fin a2m a9d a7l a3p rvV rvE rvC U7 a3k rOk B4 I3 a1K a5t fzO a5W a0w Z7 a4r noS M7 U0 a1z a0K T4 a2i M5 a5b a4F a2b a7P a3Q a1P a2R a9x a1R a9w a5f a7t a3Y a6P a3w kill a1M a7f M4 a4y reE a6g b1c a6J a7N eqC a5j b0N a1T a1g a0q fn0 mvS mvR a7u a3S a7i a6t a5V List.idxOf?_cons List.idxOf?_nil
open Go.ChangeShapes Go.WideShapes Go.ChangeAt Go.RowKit Go.Deep
inductive Sh where
 |bool
 |int(k:IntKind)
 |str
 |slc(e:Sh)
 |agg(f:Sh)
 |fd(a r:Sh)
 |en
abbrev Sh.T:Sh→Type
 | .bool=>Bool
 | .int _=>Int
 | .str=>ByteArray
 | .slc e=>List e.T
 | .agg f=>f.T
 | .fd a r=>a.T×r.T
 | .en=>Unit
def Sh.b1o:Sh→List PV→PV
 | .agg _,cs=>.agg cs
 |_,cs=>cs.headD .uu
def Sh.cells:(s:Sh)→s.T→List PV
 | .bool,b=>[.bool b]
 | .int k,n=>[.int k n]
 | .str,s=>[.str s]
 | .slc e,xs=>[.slc (List.map (fun x=>e.b1o (e.cells x)) xs)]
 | .agg f,x=>f.cells x
 | .fd a r,x=>a.cells x.1++r.cells x.2
 | .en,_=>[]
def Sh.pv(s:Sh)(x:s.T):PV:=s.b1o (s.cells x)
def Sh.ok:(s:Sh)→s.T→Prop
 | .bool,_=>True
 | .int k,n=>(Lit.int k n).wf=true
 | .str,s=>s.size≤maxLen
 | .slc e,xs=>List.length xs≤maxLen∧∀x∈(show List e.T from xs),e.ok x
 | .agg f,x=>f.ok x
 | .fd a r,x=>a.ok x.1∧r.ok x.2
 | .en,_=>True
def Sh.pvs:(s:Sh)→s.T→List PV
 | .fd a r,x=>a.pv x.1::r.pvs x.2
 |_,_=>[]
def shF(P:Program)(b:TypeId→Sh→Bool)(c:Nat):List Field→Nat→Sh→Bool
 | [],acc,.en=>acc==c
 |fd::d,acc,.fd a r=>fd.offset==acc&&b fd.type a&&shF P b c d (acc+P.cellsOf fd.type) r
 |_,_,_=>false
def shA(b:TypeId→Sh→Bool)(sz c:Nat)(e:TypeId):Nat→Nat→Sh→Bool
 |0,i,.en=>i*sz==c
 |m+1,i,.fd a r=>b e a&&shA b sz c e m (i+1) r
 |_,_,_=>false
def shp(P:Program):Nat→TypeId→Sh→Bool
 |0,_,_=>false
 |n+1,t,s=>match P.underlying t,s with
  |some .bool,.bool=>true
  |some (.int k),.int a=>decide (k=a)
  |some .string,.str=>true
  |some (.slice e),.slc b=>shp P n e b&&Nat.blt 0 (P.cellsOf e)
  |some (.struct c),.agg f=>shF P (shp P n) (P.cellsOf t) c.toList 0 f
  |some (.array m e),.agg f=>shA (shp P n) (P.cellsOf e) (P.cellsOf t) e m 0 f
  |_,_=>false
def shL(P:Program)(n:Nat):List TypeId→Sh→Bool
 | [],.en=>true
 |t::ts,.fd a r=>shp P n t a&&shL P n ts r
 |_,_=>false
def a1b(Z:Nat→Prop)(w:World):List Value→List PV→Prop
 | [],[]=>True
 |v::vs,c::cs=>(one c=true∧PR Z w v c)∧a1b Z w vs cs
 |_,_=>False
theorem a1b.len{Z:Nat→Prop}{w:World}:∀{vs:List Value} {cs:List PV},a1b Z w vs cs→vs.length=cs.length
 | [],[],_=>rfl
 |_::vs,_::cs,h=>by simp[a1b.len h.2]
 | [],_::_,h=>h.elim
 |_::_,[],h=>h.elim
theorem a1b.get{Z:Nat→Prop}{w:World}:∀{vs:List Value} {cs:List PV},a1b Z w vs cs→∀(i:Nat) c,cs[i]?=some c→one c=true∧∃u,vs[i]?=some u∧PR Z w u c
 | [],[],_,i,c,h=>by simp at h
 |v::vs,c0::cs,h,0,c,a=>by simp at a;subst a;exact⟨h.1.1,v,rfl,h.1.2⟩
 |v::vs,c0::cs,h,i+1,c,a=>by
  have:=a1b.get h.2 i c (by simpa using a);simpa using this
 | [],_::_,h,_,_,_=>h.elim
 |_::_,[],h,_,_,_=>h.elim
theorem a1b.append{Z:Nat→Prop}{w:World}:∀{vs us:List Value} {cs a:List PV},a1b Z w vs cs→a1b Z w us a→a1b Z w (vs++us) (cs++a)
 | [],_,[],_,_,h=>h
 |_::_,_,_::_,_,h,h'=>⟨h.1,a1b.append h.2 h'⟩
 | [],_,_::_,_,h,_=>h.elim
 |_::_,_,[],_,h,_=>h.elim
theorem c0y{α:Type}{p:Nat→α→Prop}:∀{n:Nat},(∀i,i<n→∃x,p i x)→∃l:List α,l.length=n∧∀(i:Nat) x,l[i]?=some x→p i x
 |0,_=>⟨[],rfl,k8⟩
 |n+1,h=>by
  obtain⟨l,h1,a⟩:=c0y (n:=n) fun i hi=>h i j4;obtain⟨x,b⟩:=h n j4;refine⟨l++[x],by simp[h1],fun i y c=>?_⟩
  grind
theorem c2V{w:World}{a:Addr}{v:Value}(h:w.cell? a=some v):U8 w a.block:=by obtain⟨o,h1,b⟩:=cells_of_cell h;cases o<;>first|exact U8.of h1|cases b
theorem c8x{P:Program}{n:Nat}{t:TypeId}{s:Sh}(h:shp P n t s=true)(x:s.T):l6 (s.b1o (s.cells x))=s.cells x:=by
 cases n with
 |zero=>simp[shp]at h
 |succ n=>
  cases s<;>simp[Sh.b1o,Sh.cells,l6]
  all_goals (simp only[shp]at h;split at h<;>first|contradiction|simp_all)
section
variable{H:Type}{enc:TypeId×Value→H}{P:Program}{w:World}{sp:Nat→Bool}
abbrev Zw(w:World):Nat→Prop:=fun b=>U8 w b
theorem b8X{d:TypeId→Sh→Bool}{fuel c:Nat}{cs:List Value}(e:∀(s:Sh) (t:TypeId) (cs:List Value) x,d t s=true→DataW.trod enc P w 0 sp true fuel t cs=some x→∃y:s.T,s.ok y∧a1b (Zw w) w cs (s.cells y))(hlen:cs.length=c):
 ∀(b:List Field) (acc:Nat) (f:Sh) (r:List (DataW H×List MemPlace)),shF P d c b acc f=true→b.mapM (fun g=>DataW.trod enc P w 0 sp true fuel g.type ((cs.drop g.offset).take (P.cellsOf g.type)))=some r→∃y:f.T,f.ok y∧a1b (Zw w) w (cs.drop acc) (f.cells y)
 | [],acc,f,r,h,_=>by
  cases f<;>simp only[shF]at h<;>first|contradiction|skip
  refine⟨(),trivial,?_⟩;have:acc=c:=by simpa using h
  subst this;rw[←hlen,List.drop_length];exact trivial
 |fd::b,acc,f,r,h,hm=>by
  cases f<;>simp only[shF]at h<;>first|contradiction|skip
  rename_i a j;simp only[E7,beq_iff_eq]at h;obtain⟨⟨h1,k⟩,l⟩:=h;obtain⟨x,i⟩:=mapM_each hm fd k8;rw[List.mapM_cons]at hm;rw[i]at hm;cases hr:b.mapM (fun g=>DataW.trod enc P w 0 sp true fuel g.type ((cs.drop g.offset).take (P.cellsOf g.type)))with
  |none=>simp[hr]at hm
  |some m=>
   obtain⟨n,o,c1⟩:=e _ _ _ _ k i;obtain⟨p,q,c2⟩:=b8X e hlen b _ j m l hr;refine⟨(n,p),⟨o,q⟩,?_⟩;have:=c1.append c2;rw[h1]at this;rw[show cs.drop acc=(cs.drop acc).take (P.cellsOf fd.type)++cs.drop (acc+P.cellsOf fd.type)by rw[←a2V,a9G]];exact this
theorem b9Z{d:TypeId→Sh→Bool}{fuel b:Nat}{e:TypeId}{cs:List Value}(g:∀(s:Sh) (t:TypeId) (cs:List Value) x,d t s=true→DataW.trod enc P w 0 sp true fuel t cs=some x→∃y:s.T,s.ok y∧a1b (Zw w) w cs (s.cells y))(hlen:cs.length=b):
 ∀(m i:Nat) (f:Sh),shA d (P.cellsOf e) b e m i f=true→(∀j,j<m→∃x,DataW.trod enc P w 0 sp true fuel e ((cs.drop ((i+j)*P.cellsOf e)).take (P.cellsOf e))=some x)→∃y:f.T,f.ok y∧a1b (Zw w) w (cs.drop (i*P.cellsOf e)) (f.cells y)
 |0,i,f,h,_=>by
  cases f<;>simp only[shA]at h<;>first|contradiction|skip
  refine⟨(),trivial,?_⟩;have:i*P.cellsOf e=b:=by simpa using h
  rw[this,←hlen,List.drop_length];exact trivial
 |m+1,i,f,h,hm=>by
  cases f<;>simp only[shA]at h<;>first|contradiction|skip
  rename_i a k;simp only[E7]at h;obtain⟨l,n⟩:=h;obtain⟨x,c⟩:=hm 0 j4;obtain⟨o,p,c1⟩:=g _ _ _ _ l c;obtain⟨q,r,c2⟩:=b9Z g hlen m (i+1) k n fun j hj=>by obtain⟨x,c⟩:=hm (j+1) j4;exact⟨x,by rw[show i+1+j=i+(j+1)by omega];exact c⟩
  refine⟨(o,q),⟨p,r⟩,?_⟩;have:=c1.append c2;rw[a4d]at this;rw[show cs.drop (i*P.cellsOf e)=(cs.drop (i*P.cellsOf e)).take (P.cellsOf e)++cs.drop ((i+1)*P.cellsOf e)by rw[O5,Nat.one_mul,←a2V,a9G]];exact this
theorem d1R:∀(n:Nat) (s:Sh) (t:TypeId) (fuel:Nat) (cs:List Value) (x:DataW H×List MemPlace),shp P n t s=true→DataW.trod enc P w 0 sp true fuel t cs=some x→∃y:s.T,s.ok y∧a1b (Zw w) w cs (s.cells y):=by
 intro n
 induction n with
 |zero=>intro s t fuel cs x h;simp[shp]at h
 |succ n E=>
  intro s t fuel cs x h d;simp only[shp]at h;cases fuel with
  |zero=>simp[DataW.trod]at d
  |succ fuel=>
   split at h
   . rename_i hu;obtain⟨b,rfl⟩:∃b,cs=[.bool b]:=by
      unfold DataW.trod at d;rw[hu]at d;split at d<;>simp_all
     exact⟨b,trivial,⟨rfl,0,rfl⟩,trivial⟩
   . rename_i k R hu;obtain rfl:k=R:=(by simpa using h);obtain⟨m,rfl,hw⟩:∃m,cs=[.int k m]∧(Lit.int k m).wf=true:=by
      unfold DataW.trod at d;rw[hu]at d;split at d<;>simp_all
     exact⟨m,hw,⟨rfl,0,rfl⟩,trivial⟩
   . rename_i hu;obtain⟨b,rfl,hw⟩:∃b,cs=[.string b]∧b.size≤maxLen:=by
      unfold DataW.trod at d;rw[hu]at d;split at d<;>simp_all
     exact⟨b,hw,⟨rfl,0,rfl⟩,trivial⟩
   . rename_i e F hu;simp only[E7]at h;obtain⟨h1,A⟩:=h;have A:0<P.cellsOf e:=(by simpa using A);rcases open_slice hu d with⟨rfl,_⟩|⟨a,len,cap,m,Y,D,Pl,rfl,_,S,G,hm,_,T⟩
     . refine⟨[],⟨k8,k8⟩,⟨rfl,?_⟩,trivial⟩;exact PR.U1.2 ⟨none,0,0,k8,k8,by simp[maxLen],k8,k8⟩
     . have Z:len≤m:=(by rw[hm];split<;>omega);obtain⟨l,l1,I⟩:=c0y (α:=F.T) (p:=fun i y=>F.ok y∧∃o,w.cells? 0 (a.add (i*P.cellsOf e)) (P.cellsOf e)=some o∧a1b (Zw w) w o (F.cells y)) (n:=len) fun i hi=>by
        obtain⟨o,q,B⟩:=T i j4;obtain⟨y,v,z⟩:=E _ _ _ _ _ h1 B;exact⟨y,v,o,q,z⟩
       refine⟨l,⟨by rw[l1];omega,fun y C=>?_⟩,⟨rfl,?_⟩,trivial⟩
       . obtain⟨i,hi⟩:=List.mem_iff_getElem?.1 C;exact(I i y hi).1
       . refine PR.U1.2 ⟨some a,cap,P.cellsOf e,by simp[l1],by simp[l1];exact S,G,k8,fun i p hp=>?_⟩;rw[H6]at hp;obtain⟨y,C,rfl⟩:=C9.1 hp;obtain⟨_,o,q,B⟩:=I i y C;rw[c8x h1];unfold World.cells? at q;simp only[E0,if_true]at q;have N:o.length=P.cellsOf e:=(by rw[mapM_some_length q,List.length_range]);have O:∀j,j<P.cellsOf e→w.cell? ((a.add (i*P.cellsOf e)).add j)=o[j]?:=fun j hj=>mapM_some_get q j j (by simp[hj]);have J:=O 0 A;rw[l9 j4]at J;have hs:=World.cell?_spot J;have Q:=c2V J;refine⟨by rw[←B.len,N],a.block,a.off,?_,?_,fun j c G=>?_⟩
         . by_cases hi:i*P.cellsOf e=0
           . rw[hi]at hs;simp[Addr.add]at hs;cases a;simp_all
           . have aa:i≠0:=(by rintro rfl;simp at hi);obtain⟨K,U⟩:∃K,l[0]?=some K:=⟨l[0]'(by have:=(C0.1 C).1;omega),l9 _⟩
             obtain⟨_,V,f1,_⟩:=I 0 K U;unfold World.cells? at f1;simp only[E0,if_true]at f1;have f2:=mapM_some_get f1 0 0 (by simp[A]);have f3:V.length=P.cellsOf e:=(by rw[mapM_some_length f1,List.length_range]);rw[l9 j4]at f2;have:=World.cell?_spot f2;simp[Addr.add]at this;cases a;simp_all
         . have:((a.add (i*P.cellsOf e)).add 0).block=a.block:=(by unfold Addr.add;split<;>split<;>rfl);rw[this]at Q;exact Q
         . obtain⟨g1,u,g2,g3⟩:=B.get j c G;have hj:j<P.cellsOf e:=(by rw[←N];exact(C0.1 g2).1);refine⟨g1,u,?_,g3⟩;have L:=O j hj;rw[g2]at L;have M:=World.cell?_spot L;rw[←L];congr 1;rw[Go.Deep.add_add]at M⊢;unfold Addr.add at M⊢;split
           . rename_i W;rw[if_pos W]at M;cases a;simp_all
           . rfl
   . rename_i X f hu;unfold DataW.trod at d;rw[hu]at d;simp only at d;split at d
     . rename_i hlen;cases hr:X.toList.mapM (fun g=>DataW.trod enc P w 0 sp true fuel g.type ((cs.drop g.offset).take (P.cellsOf g.type)))with
       |none=>rw[hr]at d;simp at d
       |some r=>
        obtain⟨y,v,z⟩:=b8X (fun s t cs x a b=>E s t fuel cs x a b) hlen _ _ _ r h hr;exact⟨y,v,by simpa[Sh.cells]using z⟩
     . cases d
   . rename_i m e f hu;unfold DataW.trod at d;rw[hu]at d;simp only at d;split at d
     . rename_i hlen;cases hr:(List.range m).mapM (fun i=>DataW.trod enc P w 0 sp true fuel e ((cs.drop (i*P.cellsOf e)).take (P.cellsOf e)))with
       |none=>rw[hr]at d;simp at d
       |some r=>
        obtain⟨y,v,z⟩:=b9Z (fun s t cs x a b=>E s t fuel cs x a b) hlen m 0 f h fun j hj=>mapM_each hr (0+j) (by simpa using hj);exact⟨y,v,by simpa[Sh.cells]using z⟩
     . cases d
   . cases h
theorem b9Y{Z:Nat→Prop}{v:Value}{c:PV}(h1:one c=true)(h:PR Z w v c)(n:Nat)(a:0<n:=by decide):j9 (G0 Z) [] w n v c:=one_cell h1 (a1x (G:=G0 Z) h1 h) a
theorem b5C{Z:Nat→Prop}{vs:Array Value}{cs:List PV}(h:a1b Z w vs.toList cs)(n:Nat)(a:0<n:=by decide):J4 (j9 (G0 Z) [] w n) vs cs:=
 ⟨by have:=h.len;simpa using this,fun i c b=>by obtain⟨h1,u,d,e⟩:=h.get i c b;exact⟨u,by simpa using d,b9Y h1 e n a⟩⟩
theorem d1M{n:Nat}{s:Sh}{t:TypeId}{v:Value}{d:DataW H}{ps:List MemPlace}{base:Nat}(hs:shp P n t s=true)(a:Value.okWide P w .any base t v)(hd:DataW.Trod enc P w 0 sp true t v d ps):∃y:s.T,s.ok y∧j9 (G0 (Zw w)) [] w D v (s.pv y):=by
 obtain⟨fuel,hd⟩:=hd;obtain⟨y,e,b⟩:=d1R n s t fuel _ _ hs hd;refine⟨y,e,?_⟩;cases n with
 |zero=>simp[shp]at hs
 |succ n=>
  simp only[shp]at hs;have single:∀c,s.cells y=[c]→s.pv y=c→(∀cs,v≠ .agg cs)→j9 (G0 (Zw w)) [] w D v (s.pv y):=by
   intro c h1 f g;have:v.cells.toList=[v]:=by cases v<;>first|rfl|exact absurd rfl (g _)
   rw[this,h1]at b;rw[f];exact b9Y b.1.1 b.1.2 _
  split at hs
  . rename_i hu;exact single _ rfl rfl (by rintro cs rfl;simp[Value.okWide,hu,Cell.okWide,Cell.ok]at a)
  . rename_i hu;exact single _ rfl rfl (by rintro cs rfl;simp[Value.okWide,hu,Cell.okWide,Cell.ok]at a)
  . rename_i hu;exact single _ rfl rfl (by rintro cs rfl;simp[Value.okWide,hu,Cell.okWide,Cell.ok]at a)
  . rename_i hu;exact single _ rfl rfl (by rintro cs rfl;simp[Value.okWide,hu,Cell.okWide,Cell.ok]at a)
  . rename_i hu;unfold Value.okWide at a;rw[hu]at a;obtain⟨cs,rfl,_,_⟩:=a;show j9 _ _ _ (5+1) _ (.agg _);unfold j9;exact⟨cs,rfl,b5C b 5⟩
  . rename_i hu;unfold Value.okWide at a;rw[hu]at a;obtain⟨cs,rfl,_,_⟩:=a;show j9 _ _ _ (5+1) _ (.agg _);unfold j9;exact⟨cs,rfl,b5C b 5⟩
  . cases hs
theorem b6O{n base:Nat}:∀{ts:List TypeId} {F:Sh} {vs:List Value} {f:List (DataW H)} {ps:List MemPlace},shL P n ts F=true→(∀(j:Nat) t v,ts[j]?=some t→vs[j]?=some v→Value.okWide P w .any base t v)→DataW.TrodAll enc P w 0 sp true ts vs f ps→
 ∃y:F.T,F.ok y∧vs.length=(F.pvs y).length∧∀(i:Nat) c,(F.pvs y)[i]?=some c→∃u,vs[i]?=some u∧j9 (G0 (Zw w)) [] w D u c
 | [],F,vs,f,ps,h,_,g=>by
  cases F<;>simp only[shL]at h<;>first|contradiction|skip
  obtain⟨rfl,rfl,rfl⟩:=trodAll_nil g;exact⟨(),trivial,rfl,by simp[Sh.pvs]⟩
 |t::ts,F,vs,f,ps,h,k,g=>by
  cases F<;>simp only[shL]at h<;>first|contradiction|skip
  rename_i a r;simp only[E7]at h;obtain⟨v,vs',d,z,p,q,rfl,rfl,rfl,h1,l⟩:=trodAll_cons g;obtain⟨m,o,c1⟩:=d1M h.1 (k 0 t v rfl rfl) h1;obtain⟨s,x,c2,c3⟩:=b6O h.2 (fun j t v a b=>k (j+1) t v (by simpa using a) (by simpa using b)) l;refine⟨(m,s),⟨o,x⟩,by simp[Sh.pvs,c2],fun i c e=>?_⟩;cases i with
  |zero=>simp[Sh.pvs]at e;subst e;exact⟨v,rfl,c1⟩
  |succ i=>simp[Sh.pvs]at e;simpa using c3 i c e
theorem c0x{w':World}(e:laidOutB P=true)(hb:Below w.heap.size w w'):∀{ts:List TypeId} {vs:List Value} {a:List (DataW H)} {ps:List MemPlace},ts.all (fun t=>P.readableRec t&&decide (t<P.types.size))=true→DataW.TrodAll enc P w 0 (fun _=>true) true ts vs a ps→DataW.TrodAll enc P w' 0 (fun b=>decide (b<w.heap.size)) true ts vs a ps
 | [],vs,a,ps,_,c=>by
  obtain⟨rfl,rfl,rfl⟩:=trodAll_nil c;rfl
 |t::ts,vs,a,ps,h,c=>by
  obtain⟨v,vs',d,i,p,q,rfl,rfl,rfl,h1,f⟩:=trodAll_cons c;simp only[List.all_cons,E7,decide_eq_true_eq]at h;have g:∀x∈p,x.block<w.heap.size:=by obtain⟨m,hm⟩:=h1;exact DataW.trod_lt m _ _ _ hm
  exact trodAll_cons_mk (Below.trod e h.1.1 h.1.2 h1 hb g) (c0x e hb h.2 f)
end
theorem b8U{H:Type}{enc:TypeId×Value→H}{P:Program}{w:World}{base:Nat}{sp:Nat→Bool}{held:Bool}:∀{ts:List TypeId} {vs:List Value} {a:List (DataW H)} {ps:List MemPlace},DataW.TrodAll enc P w base sp held ts vs a ps→a.length=ts.length
 | [],vs,a,ps,b=>by obtain⟨rfl,rfl,rfl⟩:=trodAll_nil b;rfl
 |t::ts,vs,a,ps,b=>by obtain⟨v,vs',d,e,p,q,rfl,rfl,rfl,h1,c⟩:=trodAll_cons b;simp[b8U c]
end Go.Proofs.YtmhbdebagfhimaaGreatDoor.Am
namespace Go.Proofs.YtmhbdebagfhimaaGreatDoor.T
open Go.Proofs.YtmhbdebagfhimaaGreatDoor.Am
abbrev By:=List UInt8
abbrev I(n:Int):PV:=.int .i64 n
abbrev U(n:Int):PV:=.int .u8 n
abbrev St(l:By):PV:=.str ⟨⟨l⟩⟩
abbrev UN(c:Nat):PV:=.int .u8 (c:Int)
abbrev IN(c:Nat):PV:=.int .i64 (c:Int)
abbrev CL(l:List Nat):PV:=.slc (l.map UN)
abbrev B(b:Bool):PV:=.bool b
structure I4 where
 print:By
 cells:List Nat
 left:Nat
 right:Nat
 src:Nat
 dst:Nat
 deriving DecidableEq,Inhabited
structure k7 where
 modes:Nat
 accept:Nat
 rules:List I4
 deriving DecidableEq,Inhabited
structure State where
 mode:Nat
 last:Nat
 need:Nat
 deriving DecidableEq,Inhabited
abbrev RP(r:I4):PV:=.agg [St r.print,CL r.cells,UN r.left,UN r.right,IN r.src,IN r.dst]
abbrev TP(t:k7):PV:=.agg [IN t.modes,UN t.accept,.slc (t.rules.map RP)]
abbrev SP(s:State):PV:=.agg [IN s.mode,IN s.last,UN s.need]
def bit(m k:Nat):Bool:=decide (k<8)&&m.testBit k
def O7(b:UInt8):Nat:=b.toNat%128
def a1u(b:UInt8):Nat:=
 if 97≤O7 b∧O7 b≤122 then 1 else if 65≤O7 b∧O7 b≤90 then 2 else if 48≤O7 b∧O7 b≤57 then 3 else if O7 b=32 then 4 else 5
def a3l(b:UInt8):Bool:=decide (32≤O7 b)&&decide (O7 b≤126)
def a5K(r:I4)(s:State):Option State:=
 if r.src≠s.mode∨bit r.left s.last=false then none
 else if r.print=[]then(if s.need&&&r.right=0 then none else some ⟨r.dst,s.last,s.need&&&r.right⟩)
 else if bit s.need (a1u (r.print.headD 0))=false then none
 else some ⟨r.dst,a1u (r.print.getLastD 0),r.right⟩
def step(t:k7)(s:State)(a1n:Nat):Option State:=(t.rules[a1n]?).bind fun r=>a5K r s
def start:State:=⟨0,0,63⟩
def B8(t:k7)(s:State):Bool:=decide (s.mode<t.modes)&&bit t.accept s.mode&&bit s.need 0
def D5:State:=⟨0,0,0⟩
structure OkR(r:I4):Prop where
 print:r.print.length≤1000000
 cells:r.cells.length≤1000000
 cell:∀c∈r.cells,c<256
 left:r.left<256
 right:r.right<256
 src:r.src≤1000000
 dst:r.dst≤1000000
structure OkT(t:k7):Prop where
 modes:t.modes≤1000000
 accept:t.accept<256
 len:t.rules.length≤1000000
 a1n:∀r∈t.rules,OkR r
structure OkS(s:State):Prop where
 mode:s.mode≤1000000
 last:s.last≤5
 need:s.need<256
theorem c3N(b:UInt8):O7 b<128:=Nat.mod_lt _ H9
theorem b1q(b:UInt8):a1u b≤5:=by unfold a1u;(repeat' split)<;>omega
theorem c7j:OkS start:=⟨H9,H9,H9⟩
theorem c3y{a b:Nat}(h:a<256):a&&&b<256:=Nat.lt_of_le_of_lt Nat.and_le_left h
@[simp] theorem d2G(l:By):(ByteArray.mk ⟨l⟩).size=l.length:=rfl
@[simp] theorem d5d(a b:By):(ByteArray.mk ⟨a⟩)++(ByteArray.mk ⟨b⟩)=ByteArray.mk ⟨a++b⟩:=by apply ByteArray.ext;simp
@[simp] theorem d3P(a:By)(i j:Nat):(ByteArray.mk ⟨a⟩).extract i j=ByteArray.mk ⟨(a.drop i).take (j-i)⟩:=by apply ByteArray.ext;simp[ByteArray.data_extract,List.extract_eq_take_drop]
@[simp] theorem c_lt(n k:Nat):((n:Int)<(no_index (OfNat.ofNat k):Int))=(n<(OfNat.ofNat k:Nat)):=by apply propext;show((n:Int)<((k:Nat):Int))↔n<k;omega
@[simp] theorem c_gt(n k:Nat):((no_index (OfNat.ofNat k):Int)<(n:Int))=((OfNat.ofNat k:Nat)<n):=by apply propext;show(((k:Nat):Int)<(n:Int))↔k<n;omega
@[simp] theorem c_le(n k:Nat):((n:Int)≤(no_index (OfNat.ofNat k):Int))=(n≤(OfNat.ofNat k:Nat)):=by apply propext;show((n:Int)≤((k:Nat):Int))↔n≤k;omega
@[simp] theorem c_ge(n k:Nat):((no_index (OfNat.ofNat k):Int)≤(n:Int))=((OfNat.ofNat k:Nat)≤n):=by apply propext;show(((k:Nat):Int)≤(n:Int))↔k≤n;omega
@[simp] theorem c_eq(n k:Nat):((n:Int)=(no_index (OfNat.ofNat k):Int))=(n=(OfNat.ofNat k:Nat)):=by apply propext;show((n:Int)=((k:Nat):Int))↔n=k;omega
@[simp] theorem c_eq'(n k:Nat):((no_index (OfNat.ofNat k):Int)=(n:Int))=((OfNat.ofNat k:Nat)=n):=by apply propext;show(((k:Nat):Int)=(n:Int))↔k=n;omega
theorem wrap_ok{n:Int}(h1: -9223372036854775808≤n)(a:n≤9223372036854775807):IntKind.i64.wrap n=n:=by simp[IntKind.wrap,IntKind.signed,IntKind.bits];omega
theorem T3{n:Int}(h1: -9223372036854775808≤n:=by omega)(a:n≤9223372036854775807:=by omega):IntKind.i64.wrap n=n:=wrap_ok h1 a
theorem wk1(k:Nat)(h:(k:Int)+1≤9223372036854775807):IntKind.i64.wrap ((k:Int)+1)=((k+1:Nat):Int):=T3
theorem a4p{n:Int}(h1:0≤n)(a:n≤255):IntKind.u8.wrap n=n:=by simp[IntKind.wrap,IntKind.signed,IntKind.bits];omega
theorem a8f:∀b:UInt8,a3G .u8 (b.toNat:Int) 127=((O7 b:Nat):Int):=by
 intro b;have:∀n:Fin 256,a3G .u8 ((n.val:Nat):Int) 127=((n.val%128:Nat):Int):=by decide+kernel
 exact this ⟨b.toNat,b.toNat_lt⟩
theorem b2m{a b:Nat}(c:a<256)(hb:b<256):a3G .u8 (a:Int) (b:Int)=((a&&&b:Nat):Int):=by have h1:a&&&b<256:=c3y c;show IntKind.u8.wrap ((((BitVec.ofInt 8 (a:Int))&&&(BitVec.ofInt 8 (b:Int)):BitVec 8).toNat:Nat):Int)=_;rw[BitVec.toNat_and,BitVec.ofInt_natCast,BitVec.ofInt_natCast,BitVec.toNat_ofNat,BitVec.toNat_ofNat,Nat.mod_eq_of_lt c,Nat.mod_eq_of_lt hb];exact a4p j4 j4
theorem b6C{m k:Nat}(hm:m<256)(a:k<8):(a3G .u8 ((m:Int).fdiv (2^(min ((k:Int)).toNat 8))) 1==1)=m.testBit k:=by
 have:∀n:Fin 256,∀j:Fin 8,(a3G .u8 (((n.val:Nat):Int).fdiv (2^(min ((j.val:Nat):Int).toNat 8))) 1==1)=n.val.testBit j.val:=by decide+kernel
 exact this ⟨m,hm⟩ ⟨k,a⟩
end Go.Proofs.YtmhbdebagfhimaaGreatDoor.T
namespace Go.Proofs.YtmhbdebagfhimaaGreatDoor.Am
def sq:List C6→C6
 | []=>.skip
 | [a]=>a
 |a::b::l=>.seq a (sq (b::l))
section
variable{FN:N0}{Q:J0}{vs:List PV}{h:Heap}{a b:C6}{l:List C6}
@[simp] theorem r_sq1:Xw FN (sq [a]) Q vs h=Xw FN a Q vs h:=rfl
@[simp] theorem r_sq:Xw FN (sq (a::b::l)) Q vs h=Xw FN a (a2w (Xw FN (sq (b::l)) Q) Q) vs h:=by show Xw FN (.seq a (sq (b::l))) Q vs h=_;exact b6T
end
abbrev D3(f:Nat)(X:u9):Prop:=a4S Tryz.prog f=some {X with body:=strip X.body}
abbrev F0:=@Am.Fn Tryz.prog
theorem mixW:Tryz.prog.follows .mixedOrders=true:=by kernel_rfl
abbrev E1{f:Nat}{X:u9}(a:D3 f X)(n:Nat){szs:List Nat}{args:List PV}{r:PV}(hlen:args.length≤X.ntmps)(h:∀Q:J0,(∀vs h,fin X.results szs r vs h→Q .ret vs h)→(∀vs h,fin X.results szs r vs h→Q .normal vs h)→Xw (fns Tryz.prog) X.body Q (X.vars.map fun s=>args.getD s .uu) (List.replicate n (0,.dead))):F0 f szs args r:=d0P mixW a n hlen h
theorem s8{α:Type}(e:α):∃x,x=e:=⟨_,rfl⟩
theorem Q8{α:Type}(e:α):∃x,e=x:=⟨_,rfl⟩
theorem D7{f:Nat}{X:u9}(h:a4S Tryz.prog f=some {X with body:=strip X.body}:=by kernel_rfl):D3 f X:=h
abbrev oa(a:Nat):l5:=oq (.mv (.v a))
abbrev ob(a b:Nat):l5:=oq (.load false a (.l b))
abbrev oc(a b:Nat):l5:=ow a (.mv (.l b))
abbrev od(a b:Nat):l5:=oq (.fieldAddr a (.v b))
abbrev oe(a b c:Nat):l5:=⟨.load false a (.l b),none,some (.l c,true),[]⟩
abbrev og(a b c:Nat):l5:=oq (.store a (.l b) (.l c))
abbrev oh(a:Nat):l5:=ow a (.mv (.c (.bool false)))
abbrev oj(a b:Nat):l5:=⟨.mv (.v a),none,some (.l b,true),[]⟩
abbrev ok(a b:Nat):l5:=oq (.fieldAddr a (.l b))
abbrev ol(a b c:Nat):l5:=oq (.indexAddr a (.l b) (.l c))
abbrev om(a:Nat):l5:=oq (.mv (.l a))
abbrev oo(a b:Nat):l5:=oq (.load true a (.v b))
abbrev os(a b c:Nat):l5:=⟨.load false a (.l b),none,some (.l c,false),[]⟩
abbrev ot(a b:Nat):l5:=oq (.pick (.l a) (.l b) (.c (.bool false)))
abbrev ou(a b c:Nat):l5:=⟨.fieldAddr a (.v b),none,some (.l c,true),[]⟩
abbrev ov(a:Nat)(b:Int):l5:=ow a (.mv (oi b))
abbrev ox(a b c:Nat):l5:=⟨.fieldAddr a (.v b),none,some (.l c,false),[]⟩
abbrev oy(a b:Nat):l5:=oq (.extract (.l a) b)
abbrev oz(a:Nat)(b:Int):l5:=oq (.bin .add false (.v a) (oi b))
abbrev E6(a:Nat):l5:=oq (.len false (.l a))
abbrev C7(a:Nat):l5:=oq (.nilchk (.l a))
abbrev oac(a b c:Nat):l5:=ow a (.bin .lss false (.v b) (.v c))
abbrev N2(a b:Nat):l5:=⟨.mv (.v a),none,some (.l b,false),[]⟩
abbrev G5(a b:Nat):l5:=oq (.load false a (.v b))
abbrev oaf(a:Nat)(b:Int):l5:=oq (.bin .add false (.l a) (oi b))
abbrev V1(a b c:Nat):l5:=ow a (.pick (.l b) (.l c) (.c (.bool false)))
abbrev U9(a b:Nat):l5:=oq (.pick (.l a) (.c (.bool true)) (.l b))
abbrev L0(a b c:Nat):l5:=oq (.store a (.v b) (.l c))
abbrev W9(a b c:Nat):l5:=ow a (.pick (.l b) (.c (.bool true)) (.l c))
abbrev J3(a b c d e f:Nat):l5:=oq (.append a b c d (.l e) (.l f))
abbrev Q7(a b c:Nat):l5:=⟨.load false a (.l b),none,none,[c]⟩
abbrev oam(a b:Nat)(c d e:Int):l5:=ow a (.alloc b [.int .i64 c,.int .i64 d,.int .u8 e])
abbrev J7(a b:Nat):l5:=oq (.load true a (.l b))
abbrev N8(a b c:Nat):l5:=oq (.indexAddr a (.v b) (.v c))
abbrev N4(a b:Nat):l5:=ow a (.len false (.l b))
abbrev M9(a b:Nat):l5:=⟨.mv (.v a),none,none,[b]⟩
abbrev oar(a b:Nat)(c d e f g h i j k l m n:Int)(o p q r s t:Nat):l5:=oq (.mkarr a b [.agg [.str ⟨#[]⟩,.nils,.int .u8 c,.int .u8 d,.int .i64 e,.int .i64 f],.agg [.str ⟨#[]⟩,.nils,.int .u8 g,.int .u8 h,.int .i64 i,.int .i64 j],.agg [.str ⟨#[]⟩,.nils,.int .u8 k,.int .u8 l,.int .i64 m,.int .i64 n]] [(o,.l p),(q,.l r),(s,.l t)])
abbrev oas(a b c:Nat):l5:=ow a (.bin .lss false (.l b) (.l c))
abbrev oat(a b:Nat)(c d e f:Int):l5:=ow a (.alloc b [.str ⟨#[]⟩,.nils,.int .u8 c,.int .u8 d,.int .i64 e,.int .i64 f])
abbrev oau(a b c d:Nat):l5:=⟨.indexAddr a (.l b) (.l c),none,some (.l d,true),[]⟩
abbrev H4(a b c:Nat):l5:=ow a (.box b (.v c))
abbrev oaw(a b c:Nat):l5:=⟨.fieldAddr a (.l b),none,some (.l c,true),[]⟩
abbrev oax(a:Nat):l5:=ow a (.mv (.c .nils))
abbrev oay(a b c d e:Nat):l5:=oq (.call a [.l b,.l c] [(d,e)] false)
abbrev Y4(a b c d:Nat):l5:=oq (.call a [.l b] [(c,d)] false)
abbrev oba(a:Nat):l5:=ow a (.mv (.c (.bool true)))
abbrev obb(a b c d e f:Nat):l5:=⟨.call a [.l b,.l c] [(d,e)] false,none,some (.l f,true),[]⟩
abbrev obc(a b c:Nat):l5:=⟨.bin .eql false (.l a) (.l b),none,some (.l c,true),[]⟩
abbrev obd(a b:Nat):l5:=ow a (.un .not (.l b))
abbrev obe(a b:Nat):l5:=⟨.nilchk (.l a),none,some (.l b,true),[]⟩
abbrev Z3(a b c:Nat):l5:=ow a (.load false b (.l c))
abbrev obg(a b:Nat):l5:=⟨.len false (.l a),none,some (.l b,false),[]⟩
abbrev obh(a b c:Nat):l5:=⟨.fieldAddr a (.v b),none,none,[c]⟩
abbrev obi(a:Nat)(b:Int)(c:Nat):l5:=⟨.bin .leq false (.l a) (.c (.int .u8 b)),none,some (.l c,true),[]⟩
abbrev obj(a b:Nat):l5:=oq (.callv (.c (.fn (.func a) [] [])) [.l b])
abbrev obk(a:Nat)(b:Int):l5:=oq (.bin .sub false (.l a) (oi b))
abbrev obl(a:Nat)(b:Int)(c:Nat):l5:=⟨.bin .gtr false (.l a) (oi b),none,some (.l c,false),[]⟩
abbrev obm(a b:Nat):l5:=oq (.store a (.l b) (.c (.bool true)))
abbrev obn(a:Nat)(b:Int)(c:Nat):l5:=⟨.bin .lss false (.l a) (oi b),none,some (.l c,true),[]⟩
abbrev obo(a b c d:Nat):l5:=⟨.indexAddr a (.l b) (.l c),none,none,[d]⟩
abbrev obp(a:Nat):l5:=oq (.len true (.l a))
abbrev obq(a b:Nat):l5:=oq (.bin .add false (.l a) (.l b))
abbrev obr(a b c:Nat):l5:=⟨.bin .geq false (.l a) (.l b),none,some (.l c,false),[]⟩
abbrev obs(a:Nat)(b:Int)(c:Nat):l5:=⟨.bin .lss false (.l a) (oi b),none,some (.l c,false),[]⟩
abbrev obt(a:Nat):l5:=ow a (.mv (.c (.str ⟨#[]⟩)))
abbrev obu(a:Nat)(b:Int):l5:=oq (.bin .and false (.l a) (.c (.int .u8 b)))
abbrev obv(a b c:Nat):l5:=⟨.mv (.v a),none,none,[b,c]⟩
abbrev obw(a b c:Int):l5:=oq (.build [.int .i64 a,.int .i64 b,.int .u8 c] [])
abbrev obx(a:Nat)(b:Int)(c:Nat):l5:=⟨.bin .eql false (.l a) (oi b),none,some (.l c,true),[]⟩
abbrev oby(a b:Nat):l5:=oq (.bin .lss false (.l a) (.l b))
abbrev obz(a:Nat)(b:Int):l5:=oq (.bin .eql false (.l a) (oi b))
abbrev oca(a b:Nat)(c d:Int):l5:=ow a (.alloc b [.int .i64 c,.int .u8 d,.nils])
abbrev ocb(a b c:Nat):l5:=ow a (.bin .neq false (.l b) (.l c))
abbrev occ(a b c:Nat):l5:=⟨.load true a (.v b),none,none,[c]⟩
abbrev ocd(a b c:Nat):l5:=⟨.load true a (.v b),none,some (.l c,true),[]⟩
abbrev oce(a b:Nat)(c:Int):l5:=oq (.indexAddr a (.l b) (oi c))
abbrev ocf(a:Nat)(b:Int)(c:Nat):l5:=⟨.bin .gtr false (.l a) (.c (.int .u8 b)),none,some (.l c,false),[]⟩
abbrev ocg(a b:Nat):l5:=oq (.indexS (.l a) (.l b))
abbrev och(a:Nat)(b:Int):l5:=oq (.bin .eql false (.v a) (.c (.int .u8 b)))
abbrev oci(a:Nat)(b:Int)(c:Nat):l5:=⟨.bin .eql false (.l a) (.c (.int .u8 b)),none,some (.l c,true),[]⟩
abbrev ocj(a b c:Nat):l5:=⟨.extract (.l a) b,none,none,[c]⟩
abbrev ock(a b c:Nat):l5:=⟨.fieldAddr a (.l b),none,none,[c]⟩
abbrev ocl(a b:Nat)(c:Int):l5:=oq (.callv (.c (.fn (.func a) [] [])) [.v b,oi c])
abbrev ocm(a b:Nat)(c:Int)(d e:Nat):l5:=oq (.mkarr a b [.int .i64 c] [(d,.l e)])
abbrev ocn(a b c d:Nat):l5:=⟨.fieldAddr a (.l b),none,none,[c,d]⟩
abbrev oco(a b c d e f:Nat):l5:=oq (.call a [.l b] [(c,d),(e,f)] false)
abbrev ocp(a:Nat)(b:Int):l5:=oq (.bin .lss false (.l a) (oi b))
abbrev ocq(a b:Nat):l5:=oq (.bin .eql false (.l a) (.l b))
abbrev ocr(a b:Nat)(c d e f:Int)(g h:Nat):l5:=oq (.mkarr a b [.agg [.str ⟨#[]⟩,.nils,.int .u8 c,.int .u8 d,.int .i64 e,.int .i64 f]] [(g,.l h)])
abbrev ocs(a b:Nat)(c:Int):l5:=ow a (.bin .eql false (.l b) (.c (.int .u8 c)))
abbrev oct(a b:Nat):l5:=⟨.un .not (.l a),none,some (.l b,true),[]⟩
abbrev ocu(a b:Nat)(c d e:Int):l5:=ow a (.alloc b [.int .i64 c,.int .i64 d,.int .i64 e,.str ⟨#[]⟩])
abbrev ocv(a:Nat)(b:Int)(c:Nat):l5:=⟨.bin .eql false (.l a) (.c (.int .u8 b)),none,some (.l c,false),[]⟩
abbrev ocw(a b:Nat)(c:Int)(d e:Nat):l5:=oq (.mkarr a b [.int .u8 c] [(d,.l e)])
abbrev ocx(a b:Nat):l5:=⟨.nilchk (.l a),none,none,[b]⟩
abbrev ocy(a b c:Nat):l5:=oq (.slice false a (.l b) none (some (.l c)) none)
abbrev ocz(a:Nat)(b:Int)(c:Nat)(d:Int)(e:Nat):l5:=⟨.lit a [.int .u8 b] [(c,.c (.int .u8 d))],none,none,[e]⟩
abbrev oda(a b c:Nat):l5:=oq (.callv (.c (.fn (.func a) [] [])) [.l b,.l c])
abbrev odb(a b:Nat)(c:Int):l5:=ow a (.bin .eql false (.l b) (oi c))
abbrev odc(a:Nat)(b:Int)(c:Nat)(d:Int)(e f:Nat):l5:=⟨.lit a [.int .u8 b] [(c,.c (.int .u8 d))],none,none,[e,f]⟩
abbrev odd(a b c d:Nat):l5:=ow a (.callv (.c (.fn (.func b) [] [])) [.l c,.l d])
abbrev ode(a b c:Nat):l5:=⟨.load true a (.l b),none,none,[c]⟩
abbrev odf(a b:Nat):l5:=ow a (.mv (.v b))
abbrev odg(a b c d:Nat):l5:=⟨.load false a (.l b),none,none,[c,d]⟩
abbrev odh(a b:Nat):l5:=⟨.len true (.l a),none,some (.l b,false),[]⟩
abbrev odi(a b c:Nat):l5:=⟨.load false a (.v b),none,some (.l c,true),[]⟩
abbrev odj(a:Nat):l5:=ow a (.mv (.c (.lit (.pointer none))))
abbrev odk(a b:Nat)(c d:Int):l5:=ow a (.alloc b [.int .i64 c,.int .i64 d])
abbrev odl(a b c:Nat):l5:=⟨.bin .neq false (.l a) (.l b),none,some (.l c,false),[]⟩
abbrev odm(a b c:Nat):l5:=⟨.bin .lss false (.l a) (.l b),none,some (.l c,false),[]⟩
abbrev odn(a b:Int)(c d:Nat)(e:Int)(f g:Nat)(h:Int)(i j k:Nat):l5:=oq (.build [.int .i64 a,.int .u8 b,.nils] [(c,d,oi e),(f,g,.c (.int .u8 h)),(i,j,.l k)])
abbrev odo(a b c d:Nat):l5:=oq (.mapUpd a (.l b) (.l c) (.l d))
abbrev odp(a b c d e f g:Nat):l5:=oq (.call a [.l b,.l c] [(d,e),(f,g)] false)
abbrev odq(a b c:Nat):l5:=⟨.nilchk (.l a),none,none,[b,c]⟩
abbrev odr(a b:Nat)(c d e:Int)(f g:Nat):l5:=oq (.mkarr a b [.agg [.int .i64 c,.int .i64 d,.int .u8 e]] [(f,.l g)])
abbrev ods(a b:Nat)(c:Int):l5:=ow a (.bin .gtr false (.l b) (oi c))
abbrev odt(a b c:Nat):l5:=⟨.load false a (.v b),none,none,[c]⟩
abbrev odu(a:Nat):l5:=oq (.un .not (.l a))
abbrev odv(a:Nat):l5:=ow a (.mv (oi (-1)))
abbrev odw(a b c d:Nat):l5:=oq (.indexAddrA a b (.v c) (.l d))
abbrev odx(a b c d:Nat):l5:=⟨.loadA a (.v b),none,none,[c,d]⟩
abbrev ody(a:Int)(b:Nat):l5:=oq (.bin .leq false (.c (.int .u8 a)) (.l b))
abbrev odz(a b c d e f:Nat):l5:=⟨.call a [.l b,.l c] [(d,e)] false,none,some (.l f,false),[]⟩
abbrev oea(a:Nat)(b:Int):l5:=oq (.indexS (.l a) (oi b))
abbrev oeb(a:Nat)(b:Int):l5:=oq (.bin .lss false (.l a) (.c (.int .u8 b)))
abbrev oec(a:Nat)(b:Int):l5:=oq (.bin .geq false (.l a) (.c (.int .u8 b)))
abbrev oed(a b:Nat)(c:Int):l5:=oq (.slice true a (.l b) (some (oi c)) none none)
abbrev oee(a b:Nat):l5:=oq (.callv (.c (.fn (.func a) [] [])) [.v b])
abbrev oef(a b:Nat)(c d:Int):l5:=ow a (.allocA b [.int .i64 c,.int .i64 d])
abbrev oeg(a b:Nat):l5:=⟨.len false (.l a),none,some (.l b,true),[]⟩
abbrev oeh(a:Nat)(b:Int)(c:Nat):l5:=⟨.bin .and false (.l a) (.c (.int .u8 b)),none,some (.l c,true),[]⟩
abbrev oei(a b c d e f g h i j k l:Nat):l5:=oq (.call a [.l b,.l c,.l d] [(e,f),(g,h),(i,j),(k,l)] false)
abbrev oej(a b:Nat):l5:=ow a (.alloc b [.nils,.nils])
abbrev oek(a b:Nat):l5:=oq (.bin .neq false (.l a) (.l b))
abbrev oel(a b:Nat):l5:=⟨.un .not (.l a),none,some (.l b,false),[]⟩
abbrev oem(a b c:Int)(d e f g h i j k l:Nat):l5:=oq (.build [.int .i64 a,.int .i64 b,.int .u8 c] [(d,e,.l f),(g,h,.l i),(j,k,.l l)])
abbrev oen(a b c:Nat):l5:=⟨.pick (.l a) (.l b) (.c (.bool false)),none,some (.l c,false),[]⟩
abbrev oeo(a:Nat)(b:Int):l5:=oq (.bin .eql false (.v a) (oi b))
abbrev oep(a b c:Nat):l5:=⟨.load true a (.v b),none,some (.l c,false),[]⟩
abbrev oeq(a b c d e f g h i j k l m:Nat):l5:=⟨.call a [.l b,.l c,.l d] [(e,f),(g,h),(i,j),(k,l)] false,none,none,[m]⟩
abbrev oer(a b c:Nat):l5:=oq (.mapUpd a (.l b) (.l c) (.c (.bool true)))
abbrev oes(a b c d:Nat):l5:=ow a (.lookup b false (.bool false) (.l c) (.l d))
abbrev oet(a b:Nat):l5:=oq (.loadA a (.v b))
abbrev oeu(a b c:Nat):l5:=⟨.loadA a (.v b),none,none,[c]⟩
abbrev oev(a b:Nat)(c d e f g h i j k l m n o p q r:Int)(s t u v w x y z:Nat):l5:=oq (.mkarr a b [.agg [.str ⟨#[]⟩,.nils,.int .u8 c,.int .u8 d,.int .i64 e,.int .i64 f],.agg [.str ⟨#[]⟩,.nils,.int .u8 g,.int .u8 h,.int .i64 i,.int .i64 j],.agg [.str ⟨#[]⟩,.nils,.int .u8 k,.int .u8 l,.int .i64 m,.int .i64 n],.agg [.str ⟨#[]⟩,.nils,.int .u8 o,.int .u8 p,.int .i64 q,.int .i64 r]] [(s,.l t),(u,.l v),(w,.l x),(y,.l z)])
abbrev oew(a b c:Nat):l5:=⟨.pick (.l a) (.c (.bool true)) (.l b),none,some (.l c,true),[]⟩
abbrev oex(a:Nat):l5:=oq (.conv .u8 (.l a))
abbrev oey(a b c d:Nat):l5:=⟨.loadV false a (.l b),none,none,[c,d]⟩
abbrev oez(a b:Nat)(c d:Int):l5:=ow a (.alloc b [.int .i64 c,.int .i64 d,.str ⟨#[]⟩])
abbrev ofa(a b:Nat):l5:=oq (.mkarr a b [] [])
abbrev ofb(a:Nat):l5:=oq (.makeMap a none)
abbrev ofc(a b c d:Nat):l5:=oq (.call a [.l b] [(c,d)] true)
abbrev ofd(a b:Nat)(c:Int):l5:=ow a (.alloc b [.str ⟨#[]⟩,.nils,.int .i64 c])
abbrev ofe(a b:Int)(c d:Nat)(e:Int)(f g:Nat)(h:Int):l5:=oq (.build [.int .i64 a,.int .i64 b] [(c,d,oi e),(f,g,oi h)])
abbrev off(a b:Int)(c d e f g h:Nat):l5:=oq (.build [.int .i64 a,.int .i64 b] [(c,d,.l e),(f,g,.l h)])
abbrev ofg(a b c:Nat):l5:=oq (.storeA a (.l b) (.l c))
abbrev ofh(a:Nat)(b:Int):l5:=oq (.bin .geq false (.l a) (oi b))
abbrev ofi(a:Nat)(b:Int):l5:=oq (.bin .rem false (.l a) (oi b))
abbrev kc:C6:=.skip
abbrev ke(a:Nat)(b:Int)(c d:Nat):C6:=.reg [oz a b,oc c d]
abbrev kf(a b c:Nat):C6:=.reg [oa a,oc b c]
abbrev kh(a b:Nat)(c:Int)(d e:Nat):C6:=.reg [oa a,oaf b c,oc d e]
abbrev ki(a b c:Nat):C6:=.reg [oac a b c]
abbrev kj(a:Nat)(b:Int):C6:=.reg [ov a b]
abbrev kk(a:Nat):C6:=.reg [oh a]
abbrev kn(a:Nat):C6:=.exit a
abbrev ko:C6:=.ret
abbrev kr(a b c d e f:Nat):C6:=.reg [oa a,oa b,E6 c,oas d e f]
abbrev ku(a:Nat):C6:=.reg [oax a]
abbrev kad(a:Nat):C6:=.reg [oba a]
abbrev kaf(a b c:Nat):C6:=.reg [oa a,obd b c]
abbrev kag(a b c:Nat)(d:Int):C6:=.reg [oa a,ow b (.bin .neq false (.l c) (oi d))]
abbrev kah(a b c d:Nat)(e:Int):C6:=.reg [oa a,ow b (.len true (.l c)),ov d e]
abbrev kai(a b c d e f:Nat):C6:=.reg [oa a,C7 b,ok c d,obm e f]
abbrev kal(a b c d e:Nat)(f:Int):C6:=.reg [odf a b,N4 c d,ov e f]
abbrev B9(a b:Nat):C6:=.cond (.v a) kc (kn b)
abbrev kaq(a:Nat):C6:=sq [kk a,ko]
abbrev kas(a b c:Int)(d e f g:Nat):C6:=sq [.reg [obw a b c,L0 d e f,oh g],ko]
abbrev kau(a b:Nat):C6:=.cond (.v a) (kn b) kc
abbrev kay(a b c:Nat)(d:Int):C6:=.cond (.v a) (sq [.reg [odv b,ov c d],ko]) kc
abbrev kaz(a b c d:Nat)(e:Int):C6:=sq [.reg [oq (.build [.nils,.str ⟨#[]⟩,.str ⟨#[]⟩] []),L0 a b c,ov d e],ko]
abbrev kba(a b:Nat)(c:Int):C6:=.cond (.v a) (sq [kj b c,ko]) kc
abbrev kbb(a b c d:Nat)(e:Int):C6:=sq [.reg [oa a,oc b c,ov d e],ko]
end Go.Proofs.YtmhbdebagfhimaaGreatDoor.Am
namespace Go.Proofs.YtmhbdebagfhimaaGreatDoor.T
open Go.Proofs.YtmhbdebagfhimaaGreatDoor.Am
theorem mixed:Tryz.prog.follows .mixedOrders=true:=by kernel_rfl
def X75:u9:=
 ⟨12,[0,2,3],0,[(1,none)],sq [kk 1,.reg [oa 0,obu 0 127,oc 2 1],.reg [oa 2,ody 32 0,om 1,oj 2 2,obi 3 126 2,ot 2 4,oc 1 5],ko]⟩
def X79:u9:=
 ⟨30,[0,2,3,6,13,20,27],0,[(1,none)],sq [kj 1 0,.reg [oa 0,obu 0 127,oc 2 1],.block 0 (sq [.reg [oa 2,ody 97 0,om 1,oj 2 2,obi 3 122 2,ot 2 4,oc 3 5],.cond (.v 3) (sq [kj 1 1,ko]) (sq [.reg [oa 2,ody 65 0,om 1,oj 2 2,obi 3 90 2,ot 2 4,oc 4 5],.cond (.v 4) (sq [kj 1 2,ko]) (sq [.reg [oa 2,ody 48 0,om 1,oj 2 2,obi 3 57 2,ot 2 4,oc 5 5],.cond (.v 5) (sq [kj 1 3,ko]) (sq [.reg [oa 2,oq (.bin .eql false (.l 0) (.c (.int .u8 32))),oc 6 1],kba 6 1 4])])])]),kj 1 5,ko]⟩
def X38:u9:=
 ⟨19,[0,2,3,4,6,7,8,14],0,[(1,none),(2,none)],sq [.reg [ov 1 0,ov 2 0],sq [kah 0 4 0 5 0,.block 0 (.loopS [0,4,5] 0 (sq [ki 6 5 4,B9 6 0,.block 1 (sq [kf 5 3 0,.reg [oa 0,oa 3,ocg 0 1,Y4 75 2 0 0,obd 7 3],.cond (.v 7) (kbb 3 1 0 2 60) kc]),ke 5 1 5 0]))],.reg [oa 0,obp 0,oc 1 1,ov 2 0],ko]⟩
def X56:u9:=
 ⟨18,[0,1,4],0,[(2,none)],sq [kk 2,.reg [oa 1,oq (.bin .leq false (oi 0) (.l 0)),om 1,oj 1 2,obn 3 8 2,ot 2 4,om 5,oj 0 6,oj 1 6,⟨.bin .shr false (.l 7) (.l 8),none,some (.l 6,true),[]⟩,oeh 9 1 6,oci 10 1 6,ot 6 11,oc 2 12],ko]⟩
def X22:u9:=
 ⟨2,[0],1,[(0,some (true,3))],sq [.reg [oam 0 0 0 0 0],.reg [oq (.build [.int .i64 0,.int .i64 0,.int .u8 0] [(0,1,oi 0),(1,1,oi 0),(2,1,.c (.int .u8 63))]),L0 3 0 0],ko]⟩
def X21:u9:=
 ⟨22,[0,1,2,3,4],2,[(4,none)],sq [.reg [H4 2 0 0,H4 3 1 1,oh 4],.reg [od 0 3,ob 1 0,od 0 2,ob 1 2,oby 1 3,om 4,ou 1 2 5,oe 1 6 5,ou 0 3 5,oe 1 8 5,obb 56 7 9 0 0 5,ot 5 10,om 11,ou 2 3 12,oe 1 13 12,⟨.call 56 [.l 14,oi 0] [(0,0)] false,none,some (.l 12,true),[]⟩,ot 12 15,oc 4 16],ko]⟩
def X77:u9:=
 ⟨78,[0,1,2,3,4,6,7,8,9,18,37,41,48,63],4,[(5,some (true,3)),(6,none)],sq [.reg [H4 3 0 0,H4 4 1 1,oam 5 2 0 0 0,oh 6],sq [.reg [oa 2,ocp 0 0,om 1,N2 2 2,ox 2 3 2,os 1 4 2,obg 5 2,obr 3 6 2,W9 9 2 7],.cond (.v 9) (kas 0 0 0 3 5 0 6) kc],.reg [od 2 3,ob 1 0,oa 2,ol 6 1 2,J7 6 3,oat 7 3 0 0 0 0,og 6 5 4],sq [.reg [od 4 7,ob 1 0,od 0 4,ob 1 2,oek 1 3,om 4,ox 2 7 5,os 1 6 5,ox 1 4 5,os 1 8 5,odz 56 7 9 0 0 5,oel 10 5,W9 10 5 11],.cond (.v 10) (kas 0 0 0 3 5 0 6) kc],sq [.reg [od 0 7,ob 1 0,ow 11 (.bin .eql false (.l 1) (.c (.str ⟨#[]⟩)))],.cond (.v 11) (sq [.reg [od 2 4,ob 1 0,od 3 7,ob 1 2,oq (.bin .and false (.l 1) (.l 3)),oc 8 4],sq [.reg [oa 8,ocs 12 0 0],.cond (.v 12) (kas 0 0 0 3 5 0 6) kc],.reg [od 5 7,ob 1 0,od 1 4,ob 1 2,oa 8,oem 0 0 0 0 1 1 1 1 3 2 1 4,L0 3 5 5,oba 6],ko]) kc],sq [.reg [od 2 4,ob 1 0,od 0 7,ob 1 2,oea 3 0,ofc 79 4 0 0,oq (.call 56 [.l 1,.l 5] [(0,0)] true),obd 13 6],.cond (.v 13) (kas 0 0 0 3 5 0 6) kc],.reg [od 5 7,ob 1 0,od 0 7,ob 1 2,od 0 7,ob 1 4,obp 5,obk 6 1,ocg 3 7,ofc 79 8 0 0,od 3 7,ob 1 10,oem 0 0 0 0 1 1 1 1 9 2 1 11,L0 3 5 12,oba 6],ko]⟩
def a8P:u9:=
 ⟨15,[0,2,3,5,6,7,13],0,[(1,none)],sq [kk 1,sq [kah 0 3 0 4 0,.block 0 (.loopS [0,3,4] 0 (sq [ki 5 4 3,B9 5 0,.block 1 (sq [kf 4 2 0,.reg [oa 0,oa 2,ocg 0 1,Y4 79 2 0 0,odb 6 3 4],.cond (.v 6) (sq [kad 1,ko]) kc]),ke 4 1 4 0]))],kk 1,ko]⟩
def b1G:u9:=
 ⟨5,[0,2],0,[(1,none)],sq [kk 1,.reg [oa 0,oeb 0 64,oc 1 1],ko]⟩
def a6x:u9:=
 ⟨26,[0,1,4,5,10,12,13,14,24],0,[(2,none)],sq [kk 2,sq [.reg [oa 0,E6 0,oa 1,E6 2,ocb 4 1 3],.cond (.v 4) (kaq 2) kc],sq [.reg [oa 0,N4 5 0,ov 6 0],.block 0 (.loopS [0,1,5,6] 0 (sq [ki 7 6 5,B9 7 0,.block 1 (sq [kf 6 3 0,.reg [oa 0,oa 3,ol 1 0 1,ob 1 2,oa 1,oa 3,ol 1 4 5,ob 1 6,ocb 8 3 7],.cond (.v 8) (kaq 2) kc]),ke 6 1 6 0]))],kad 2,ko]⟩
def X72:u9:=
 ⟨45,[0,1,2,3,4],2,[(4,none)],sq [.reg [H4 2 0 0,H4 3 1 1,oh 4],.reg [od 4 2,ob 1 0,od 4 3,ob 1 2,ocq 1 3,om 4,ou 5 2 5,oe 1 6 5,ou 5 3 5,oe 1 8 5,obc 7 9 5,ot 5 10,om 11,ou 2 2 12,oe 1 13 12,ou 2 3 12,oe 1 15 12,obc 14 16 12,ot 12 17,om 18,ou 3 2 19,oe 1 20 19,ou 3 3 19,oe 1 22 19,obc 21 23 19,ot 19 24,om 25,ou 0 2 26,oe 1 27 26,ou 0 3 26,oe 1 29 26,obc 28 30 26,ot 26 31,om 32,ou 1 2 33,oe 1 34 33,ou 1 3 33,oe 1 36 33,obb 108 35 37 0 0 33,ot 33 38,oc 4 39],ko]⟩
def R1:u9:=
 ⟨110,[0,1,2,4,6,8,24,32,50,70,73,92,93,94,95,108],1,[(3,none)],sq [.reg [H4 2 0 0,oh 3],sq [.reg [od 0 2,ob 1 0,obp 1,oq (.bin .gtr false (.l 2) (oi 4)),om 3,ox 1 2 4,os 1 5 4,obg 6 4,obs 7 1 4,U9 4 8,om 9,ox 1 2 10,os 1 11 10,obg 12 10,obl 13 4 10,W9 6 10 14],.cond (.v 6) (kaq 3) kc],sq [.reg [od 0 2,ob 1 0,oco 38 1 0 0 0 0,om 2,oy 3 0,oy 3 1,om 4,oc 4 5],kag 4 7 0 0,.cond (.v 7) (kaq 3) kc],sq [.reg [od 2 2,ob 1 0,oeb 1 1,om 2,ox 2 2 3,os 1 4 3,ocf 5 63 3,U9 3 6,om 7,ox 3 2 8,os 1 9 8,⟨.bin .lss false (.l 10) (.c (.int .u8 1)),none,some (.l 8,false),[]⟩,U9 8 11,om 12,ox 3 2 13,os 1 14 13,ocf 15 63 13,W9 8 13 16],.cond (.v 8) (kaq 3) kc],sq [.reg [od 4 2,ob 1 0,ocp 1 0,om 2,ox 4 2 3,os 1 4 3,N2 1 3,obr 5 6 3,U9 3 7,om 8,ox 5 2 9,os 1 10 9,obs 11 0 9,U9 9 12,om 13,ox 5 2 14,os 1 15 14,N2 1 14,obr 16 17 14,W9 9 14 18],.cond (.v 9) (kaq 3) kc],sq [.reg [od 0 2,ob 1 0,ow 10 (.call 106 [.l 1] [(0,0)] false)],.cond (.v 10) (sq [.reg [od 0 2,ob 1 0,obp 1,obz 2 1,om 3,ou 1 2 4,oe 1 5 4,oeg 6 4,obx 7 1 4,ot 4 8,om 9,ou 1 2 10,oe 1 11 10,⟨.indexAddr 1 (.l 12) (oi 0),none,some (.l 10,true),[]⟩,oe 1 13 10,oci 14 0 10,ot 10 15,oc 3 16],ko]) kc],sq [.reg [od 1 2,Z3 11 1 0,N4 12 1,ov 13 0],.block 0 (.loopS [11,12,13] 1 (sq [ki 14 13 12,B9 14 0,.block 1 (sq [.reg [N8 1 11 13,ob 1 0,oc 5 1],.reg [oa 5,Y4 107 0 0 0,odu 1,om 2,N2 5 3,ocv 4 63 3,U9 3 5,om 6,N2 5 7,ocv 8 0 7,W9 15 7 9],.cond (.v 15) (kaq 3) kc]),ke 13 1 13 0]))],kad 3,ko]⟩
def X30:u9:=
 ⟨67,[0,1,2,3,4,5,7,15,27,37,39,40,41,42,50,55,56,57,58,63],3,[(2,none),(3,none)],sq [.reg [H4 1 0 0,ov 2 0,ov 3 0],sq [.reg [od 0 1,ob 1 0,ocp 1 1,om 2,ox 0 1 3,os 1 4 3,obl 5 8 3,W9 7 3 6],kay 7 2 3 1],sq [.reg [od 1 1,ob 1 0,oq (.bin .eql false (.l 1) (.c (.int .u8 0))),om 2,ox 1 1 3,os 1 4 3,⟨.conv .i64 (.l 5),none,some (.l 3,false),[]⟩,ox 0 1 3,os 1 7 3,⟨.bin .shl false (oi 1) (.l 8),none,some (.l 3,false),[]⟩,obr 6 9 3,W9 8 3 10],kay 8 2 3 1],sq [.reg [od 2 1,ob 1 0,E6 1,ocp 2 1,om 3,ox 2 1 4,os 1 5 4,obg 6 4,obl 7 64 4,W9 9 4 8],kay 9 2 3 1],sq [.reg [od 2 1,Z3 10 1 0,N4 11 1,ov 12 0],.block 0 (.loopS [1,10,11,12] 3 (sq [ki 13 12 11,B9 13 0,.block 1 (sq [.reg [oa 12,N8 6 10 12,J7 6 1,oat 5 1 0 0 0 0,oc 4 0,og 6 3 2],sq [.reg [oo 6 5,od 0 1,ob 1 1,oay 71 0 2 0 0,obd 14 3],.cond (.v 14) (kbb 4 2 0 3 20) kc],.reg [od 2 1,ob 1 0,oa 4,ow 15 (.slice false 6 (.l 1) none (some (.l 2)) none),N4 16 3,ov 17 0],.block 2 (.loopS [1,4,5,10,11,12,15,16,17] 3 (sq [ki 18 17 16,B9 18 2,.block 3 (sq [.reg [N8 6 15 17,J7 6 0,oat 6 2 0 0 0 0,og 6 2 1],.reg [oo 6 6,oo 6 5,ow 19 (.call 72 [.l 0,.l 1] [(0,0)] false)],.cond (.v 19) (kbb 4 2 0 3 20) kc]),ke 17 1 17 0]))]),ke 12 1 12 0]))],.reg [ov 2 0,ov 3 0],ko]⟩
def X39:u9:=
 ⟨12,[0,1,2,4],1,[(2,none)],sq [.reg [H4 1 0 0,oh 2],.reg [oo 3 1,oco 30 0 0 0 0 0,om 1,oy 2 0,oy 2 1,om 3,oc 3 4],.reg [oa 3,obz 0 0,oc 2 1],ko]⟩
def b0D:u9:=
 ⟨78,[0,1,2,3,4,5,6,7,8,9,10,11,12,13,24,29,30,31,44,52],12,[(2,none),(3,none)],sq [.reg [H4 1 0 0,oax 2,oax 3],.reg [oq (.call 22 [] [(0,0),(0,0),(0,0)] false),oam 4 1 0 0 0,og 3 1 0],.reg [oo 3 4,odr 2 3 0 0 0 0 0,oq (.mkarr 3 1 [.nils] [(0,.c .nils)]),oc 5 1,oc 6 2],.reg [ofb 4,oo 3 4,oq (.mapUpd 46 (.l 0) (.l 1) (oi 0)),om 0,oc 7 3],sq [kj 8 0,.block 0 (.loopS [1,5,6,7,8] 12 (sq [sq [kr 8 5 1 14 0 2,B9 14 0],.block 1 (sq [.reg [od 2 1,ob 1 0,N4 15 1,ov 16 0],.block 2 (.loopS [1,5,6,7,8,15,16] 12 (sq [ki 17 16 15,B9 17 2,.block 3 (sq [kf 16 9 0,.reg [occ 3 1 5,M9 5 5,M9 8 5,obo 3 1 2 5,ode 3 3 5,M9 9 5,oeq 77 0 4 5 0 0 0 0 0 0 0 0 5,⟨.mv (.l 6),none,none,[5]⟩,ocj 7 0 5,ocj 7 1 5,oam 10 5 0 0 0,og 3 10 8,oc 11 9],sq [kaf 11 18 0,kau 18 3],.reg [oa 7,oo 3 10,oq (.lookup 46 true (.int .i64 0) (.l 0) (.l 1)),om 2,oy 3 0,oy 3 1,oc 12 4,oc 13 5],sq [kaf 13 19 0,.cond (.v 19) (sq [.reg [oa 5,E6 0,oc 12 1],.reg [oa 7,oo 3 10,oa 12,odo 46 0 1 2],.reg [oa 5,oo 3 10,odr 6 3 0 0 0 0 1,J3 7 3 24 1 0 2,oa 6,oq (.mkarr 8 1 [.nils] [(0,.c .nils)]),J3 9 1 24 1 4 5,oc 5 3,oc 6 6]]) kc],.G4 12 none 32030 0 (.reg [oa 6,oa 12,oa 6,oa 12,ol 1 2 3,ob 1 4,oa 8,ocm 10 1 0 0 6,J3 11 1 8 1 5 7,ol 1 0 1,og 1 9 8])]),ke 16 1 16 0]))]),kh 8 0 1 8 1]))],.reg [oa 5,oa 6,oc 2 0,oc 3 1],ko]⟩
def X76:u9:=
 ⟨11,[0,1,2,3],3,[(2,none)],sq [.reg [H4 1 0 0,oax 2],.reg [oo 3 1,oco 111 0 1 3 2 1,om 1,oy 2 0,oy 2 1,oc 3 3,om 4],kf 3 2 0,ko]⟩
def X91:u9:=
 ⟨75,[0,1,2,3,4,5,6,7,8,9,11,20,21,22,23,29,40,55,56,57,58,65],9,[(2,none)],sq [.reg [H4 1 0 0,oax 2],.reg [oo 3 1,oco 111 0 1 3 2 1,om 1,oy 2 0,oy 2 1,oc 3 3,oc 4 4],.G6 [(2,true),(1,true)] (.G4 3 none 0 0 (.G4 4 none 0 0 (sq [.reg [oa 3,E6 0,oq (.makeSlice 3 1 1 (.bool false) (.l 1) (.l 1)),oc 5 2],ku 6,.G4 6 none 8 1 (sq [sq [kal 11 3 12 0 13 0,.block 0 (.loopS [1,4,5,6,11,12,13] 9 (sq [ki 14 13 12,B9 14 0,.block 1 (sq [.reg [oa 13,N8 3 11 13,J7 3 1,oam 8 4 0 0 0,oc 7 0,og 3 3 2],.reg [oo 3 1,oo 3 8,ow 15 (.call 21 [.l 0,.l 1] [(0,0)] false)],.cond (.v 15) (sq [.reg [oa 5,oa 7,ol 1 0 1,obm 1 2],.reg [oa 6,oa 7,ocm 5 1 0 0 1,J3 6 1 8 1 0 2,oc 6 3]]) kc]),ke 13 1 13 0]))],.block 2 (.loopS [4,5,6] 9 (sq [sq [.reg [oa 6,E6 0,ods 16 1 0],B9 16 2],.block 3 (sq [.reg [oa 6,oa 6,E6 1,obk 2 1,ol 1 0 3,ob 1 4,oc 9 5],.reg [oa 6,oa 6,E6 1,obk 2 1,ocy 1 0 3,oc 6 4],.reg [oa 4,oa 9,ol 1 0 1,Z3 17 1 2,N4 18 3,ov 19 0],.block 4 (.loopS [4,5,6,17,18,19] 9 (sq [ki 20 19 18,B9 20 4,.block 5 (sq [.reg [N8 1 17 19,ob 1 0,oc 10 1],.reg [oa 5,oa 10,ol 1 0 1,ob 1 2,obd 21 3],.cond (.v 21) (sq [.reg [oa 5,oa 10,ol 1 0 1,obm 1 2],.reg [oa 6,oa 10,ocm 7 1 0 0 1,J3 8 1 8 1 0 2,oc 6 3]]) kc]),ke 19 1 19 0]))])])),kf 5 2 0,ko])])))]⟩
theorem c75:D3 75 X75:=D7
theorem c79:D3 79 X79:=D7
theorem c38:D3 38 X38:=D7
theorem c56:D3 56 X56:=D7
theorem c22:D3 22 X22:=D7
theorem O3:D3 21 X21:=D7
theorem c77:D3 77 X77:=D7
theorem c106:D3 106 a8P:=D7
theorem c107:D3 107 b1G:=D7
theorem c108:D3 108 a6x:=D7
theorem c72:D3 72 X72:=D7
theorem c71:D3 71 R1:=D7
theorem c30:D3 30 X30:=D7
theorem c39:D3 39 X39:=D7
theorem c111:D3 111 b0D:=D7
theorem c76:D3 76 X76:=D7
theorem c91:D3 91 X91:=D7
set_option maxHeartbeats 4000000
theorem c5q(b:UInt8):F0 75 [0] [U b.toNat] (B (a3l b)):=by
 refine E1 c75 0 (by simp[X75]) fun Q a c=>?_;have h:=a8f b;simp[X75,h];by_cases h1:32≤O7 b
 . simp[h1];refine a _ _ ?_;simp[X75,a3l,h1]
 . simp[h1];refine a _ _ ?_;simp[X75,a3l,h1]
theorem b0Y(b:UInt8):F0 79 [0] [U b.toNat] (IN (a1u b)):=by
 refine E1 c79 0 (by simp[X79]) fun Q e m=>?_;have h:=a8f b;have a:a1u b=(if 97≤O7 b∧O7 b≤122 then 1 else if 65≤O7 b∧O7 b≤90 then 2 else if 48≤O7 b∧O7 b≤57 then 3 else if O7 b=32 then 4 else 5):=rfl;generalize O7 b=c at h a;by_cases a1:97≤c∧c≤122
 . rw[if_pos a1]at a;simp[X79,h,a1];refine e _ _ ?_;simp[X79,a]
 rw[if_neg a1]at a;by_cases a3:65≤c∧c≤90
 . rw[if_pos a3]at a;have d:¬97≤c:=j4;simp[X79,h,a3,d];refine e _ _ ?_;simp[X79,a]
 rw[if_neg a3]at a;by_cases a5:48≤c∧c≤57
 . rw[if_pos a5]at a;have d:¬97≤c:=j4;have f:¬65≤c:=j4;simp[X79,h,a5,d,f];refine e _ _ ?_;simp[X79,a]
 rw[if_neg a5]at a;by_cases d:97≤c<;>by_cases f:65≤c<;>by_cases i:48≤c<;>by_cases g:c=32<;>(try (exfalso;omega))<;>
  (have j:97≤c→¬c≤122:=j4
   have k:65≤c→¬c≤90:=j4;have l:48≤c→¬c≤57:=j4;simp only[g,if_true,if_false]at a;simp[X79,h,d,f,i,g,j,k,l];refine e _ _ ?_;simp[X79,a])
theorem b1a(m k:Nat)(hm:m<256)(c:k≤1000000):F0 56 [0] [UN m,IN k] (B (bit m k)):=by
 refine E1 c56 0 (by simp[X56]) fun Q b d=>?_;by_cases a:k<8
 . have h:=b6C hm a;simp[X56,a,IntKind.bits];simp at h;refine b _ _ ?_;simp[X56,bit,a,h]
 . simp[X56,a];refine b _ _ ?_;simp[X56,bit,a]
theorem c0c:F0 22 [0,0,0] [] (SP start):=by refine E1 c22 1 (by simp[X22]) fun Q a b=>?_;simp[X22];refine a _ _ ?_;simp[X22,start]
def a0m(s:By):Option Nat:=s.findIdx? fun b=>!a3l b
abbrev b0O(s:By):PV:=.tup [IN ((a0m s).getD s.length),I (if(a0m s).isSome then 60 else 0)]
theorem b9Q(s:By)(hs:s.length≤1100000000):F0 38 [0,0] [St s] (b0O s):=by
 refine E1 c38 0 (by simp[X38]) fun Q a l=>?_;simp[X38];refine I6 (fun(k:Nat) vs h=>k≤s.length∧(∀j,(hj:j<s.length)→j<k→a3l s[j]=true)∧vs=[St s,.uu,.uu,.uu,IN s.length,IN k,.uu,.uu]∧h=[]) (fun k=>s.length-k) 0 ?_ ?_
 . simp
 . rintro k vs h ⟨g1,g2,rfl,rfl⟩ Q' e f g;by_cases c:k<s.length
   . have hw:=wk1 k j4;simp[c];refine l8 (c5q s[k]) ?_;cases d:a3l s[k]
     . simp;refine g _ _ ?_;simp;have:a0m s=some k:=by
        unfold a0m;rw[a1W];exact⟨c,by simp[d],fun j hj=>by simp[g2 j j4 hj]⟩
       refine a _ _ ?_;simp[X38,this]
     . simp[hw];refine e (k+1) _ _ j4 ?_;simp;refine⟨j4,fun j hj m=>?_⟩;by_cases i:j<k
       . exact g2 j hj i
       . obtain rfl:j=k:=j4;exact d
   . obtain rfl:k=s.length:=j4;have:a0m s=none:=by
      unfold a0m;rw[b2c];intro b hb;obtain⟨j,hj,rfl⟩:=a1I hb;simp[g2 j hj hj]
     simp;refine f _ _ _ ?_;simp;refine a _ _ ?_;simp[X38,this]
theorem a9n(t:k7)(s:State)(b:OkT t)(hs:OkS s):F0 21 [0] [TP t,SP s] (B (B8 t s)):=by
 refine E1 O3 2 (by simp[X21]) fun Q a d=>?_;have h1:=b1a t.accept s.mode b.accept hs.mode;have c:=b1a s.need 0 hs.need j4;by_cases hm:s.mode<t.modes
 . simp[X21,hm];refine l8 h1 ?_;cases hb:bit t.accept s.mode
   . simp;refine a _ _ ?_;simp[X21,B8,hb]
   . simp;refine l8 c ?_;simp;refine a _ _ ?_;simp[X21,B8,hb,hm]
 . simp[X21,hm];refine a _ _ ?_;simp[X21,B8,hm]
abbrev a1C(o:Option State):PV:=.tup [SP (o.getD D5),B o.isSome]
theorem b1p(t:k7)(s:State)(k:Nat)(i:OkT t)(hs:OkS s)(v:k≤1000000):F0 77 [0,0,0,0] [TP t,SP s,IN k] (a1C (step t s k)):=by
 refine E1 c77 4 (by simp[X77]) fun Q j w=>?_;have hlen:=i.len;by_cases d:k<t.rules.length
 . have g:¬((t.rules.length:Int)≤k):=j4;have b:step t s k=a5K t.rules[k] s:=(by unfold step;rw[l9 d];rfl);have hr:=i.a1n _ (C4 d);simp[X77,d,g];generalize t.rules[k]=r at hr b;unfold a5K at b;have c:∀(o:Option State) vs h,step t s k=o→fin X77.results [0,0,0,0] (a1C o) vs h→Q .ret vs h:=fun o vs h x y=>j _ _ (by grind);by_cases e:r.src=s.mode
   . simp[e];refine l8 (b1a r.left s.last hr.left (by have:=hs.last;omega)) ?_;cases hb:bit r.left s.last
     . rw[if_pos (.inr hb)]at b;simp;refine c _ _ _ b ?_;simp[X77,D5]
     . rw[if_neg (by simp[e,hb])]at b;by_cases hp:r.print=[]
       . rw[if_pos hp]at b;simp[hp,b2m hs.need hr.right];by_cases f:s.need&&&r.right=0
         . rw[if_pos f]at b;simp[f];refine c _ _ _ b ?_;simp[X77,D5]
         . rw[if_neg f]at b;have z:¬((s.need&&&r.right:Nat):Int)=0:=j4;simp[f];refine c _ _ _ b ?_;simp[X77]
       . rw[if_neg hp]at b;have h0:0<r.print.length:=a2E.2 hp;have n:=b0Y r.print[0];have p:=b0Y r.print[r.print.length-1];have q:r.print.headD 0=r.print[0]:=(by obtain⟨a,l,h⟩:=a9L hp;simp[h]);have el:r.print.getLastD 0=r.print[r.print.length-1]:=(by grind);have u:r.print.length-1<r.print.length:=j4;have hlen:=hr.print;have hw:IntKind.i64.wrap ((r.print.length:Int)-1)=((r.print.length-1:Nat):Int):=(by rw[wrap_ok j4 j4];omega);rw[q,el]at b;simp[hp,h0];refine l8 n ?_;simp;refine l8 (b1a s.need _ hs.need (by have:=b1q r.print[0];omega)) ?_;cases m:bit s.need (a1u r.print[0])
         . rw[if_pos m]at b;simp;refine c _ _ _ b ?_;simp[X77,D5]
         . rw[if_neg (by simp[m])]at b;simp[hw,u];refine l8 p ?_;simp;refine c _ _ _ b ?_;simp[X77]
   . rw[if_pos (.inl e)]at b;simp[e];refine c _ _ _ b ?_;simp[X77,D5]
 . have g:((t.rules.length:Int)≤k):=j4;have b:step t s k=none:=(by unfold step;rw[a0i j4];rfl);simp[X77,d,g];refine j _ _ ?_;simp[X77,D5,b]
set_option maxHeartbeats 8000000
def a3o(s:By):Bool:=s.any fun b=>decide (a1u b=4)
def a0B(r:I4)(modes:Nat):Bool:=
 if 4<r.print.length∨r.cells.length<1∨4<r.cells.length then false
 else if(a0m r.print).isSome then false
 else if r.left<1∨63<r.left∨r.right<1∨63<r.right then false
 else if modes≤r.src∨modes≤r.dst then false
 else if a3o r.print then decide (r.print.length=1∧r.cells=[0])
 else r.cells.all fun c=>decide (c<64)&&decide (c≠63)&&decide (c≠0)
theorem c6Z(s:By)(hs:s.length≤1100000000):F0 106 [0] [St s] (B (a3o s)):=by
 refine E1 c106 0 (by simp[a8P]) fun Q a i=>?_;simp[a8P];refine I6 (fun(k:Nat) vs h=>k≤s.length∧(∀j,(hj:j<s.length)→j<k→a1u s[j]≠4)∧vs=[St s,.uu,.uu,IN s.length,IN k,.uu,.uu]∧h=[]) (fun k=>s.length-k) 0 ?_ ?_
 . simp
 . rintro k vs h ⟨g1,g2,rfl,rfl⟩ Q' d e f;by_cases g:k<s.length
   . have hw:=wk1 k j4;simp[g];refine l8 (b0Y s[k]) ?_;by_cases c:a1u s[k]=4
     . simp[c];refine f _ _ ?_;simp;have:a3o s=true:=by
        unfold a3o
        grind
       refine a _ _ ?_;simp[a8P,this]
     . simp[hw,c];refine d (k+1) _ _ j4 ?_;simp
       grind
   . obtain rfl:k=s.length:=j4;have:a3o s=false:=by
      unfold a3o;rw[List.any_eq_false];intro b hb;obtain⟨j,hj,rfl⟩:=a1I hb;simp[g2 j hj hj]
     simp;refine e _ _ _ ?_;simp;refine a _ _ ?_;simp[a8P,this]
theorem c4V(c:Nat):F0 107 [0] [UN c] (B (decide (c<64))):=by refine E1 c107 0 (by simp[b1G]) fun Q a b=>?_;simp[b1G];refine a _ _ ?_;simp[b1G]
theorem c3q(a b:List Nat)(q:a.length≤1100000000):F0 108 [0] [CL a,CL b] (B (decide (a=b))):=by
 refine E1 c108 0 (by simp[a6x]) fun Q d r=>?_;by_cases c:a.length=b.length
 . simp[a6x,c];refine I6 (fun(k:Nat) vs h=>k≤b.length∧(∀j,(hj:j<b.length)→j<k→a[j]'j4=b[j])∧vs=[CL a,CL b,.uu,.uu,.uu,IN b.length,IN k,.uu,.uu]∧h=[]) (fun k=>b.length-k) 0 ?_ ?_
   . simp
   . rintro k vs h ⟨g1,g2,rfl,rfl⟩ Q' m n o;by_cases g:k<b.length
     . have hw:=wk1 k j4;have i:k<a.length:=j4;by_cases f:a[k]=b[k]
       . simp[g,i,f,hw];refine m (k+1) _ _ j4 ?_;simp
         grind
       . have:¬a=b:=fun e=>f (by subst e;rfl);have p:¬((a[k]:Nat):Int)=b[k]:=j4;simp[g,i,f,p];refine o _ _ ?_;simp;refine d _ _ ?_;simp[a6x,this]
     . obtain rfl:k=b.length:=j4;have:a=b:=a0z c fun j h1 l=>g2 j l l;simp;refine n _ _ _ ?_;simp;refine d _ _ ?_;simp[a6x,this]
 . simp[a6x,c];refine d _ _ ?_;have:¬a=b:=fun e=>c (by rw[e]);simp[a6x,this]
theorem c1A(a b:I4):(a=b)=(a.src=b.src∧a.dst=b.dst∧a.left=b.left∧a.right=b.right∧a.print=b.print∧a.cells=b.cells):=by
 cases a;cases b;simp only[I4.mk.injEq];apply propext;constructor
 . grind
 . grind
theorem c3w(a b:I4)(h:a.cells.length≤1100000000):F0 72 [0] [RP a,RP b] (B (decide (a=b))):=by
 refine E1 c72 2 (by simp[X72]) fun Q e j=>?_;have he:=c1A a b;by_cases h1:a.src=b.src
 . by_cases c:a.dst=b.dst
   . by_cases d:a.left=b.left
     . by_cases f:a.right=b.right
       . by_cases g:a.print=b.print
         . simp[X72,h1,c,d,f,g];refine l8 (c3q a.cells b.cells h) ?_;simp;refine e _ _ ?_;simp[X72,he,h1,c,d,f,g]
         all_goals
          have i:(a.print==b.print)=false:=beq_eq_false_iff_ne.2 g;simp[X72,h1,c,d,f,i];refine e _ _ ?_;simp[X72,he,h1,c,d,f,g]
       all_goals
        simp[X72,h1,c,d,f];refine e _ _ ?_;simp[X72,he,h1,c,d,f]
     all_goals
      simp[X72,h1,c,d];refine e _ _ ?_;simp[X72,he,h1,c,d]
   all_goals
    simp[X72,h1,c];refine e _ _ ?_;simp[X72,he,h1,c]
 all_goals
  simp[X72,h1];refine e _ _ ?_;simp[X72,he,h1]
theorem c6c(r:I4)(m:Nat)(hr:OkR r)(hm:m≤1000000):F0 71 [0] [RP r,IN m] (B (a0B r m)):=by
 refine E1 c71 1 (by simp[R1]) fun Q a D=>?_;have he:a0B r m=(if 4<r.print.length∨r.cells.length<1∨4<r.cells.length then false
  else if(a0m r.print).isSome then false
  else if r.left<1∨63<r.left∨r.right<1∨63<r.right then false
  else if m≤r.src∨m≤r.dst then false
  else if a3o r.print then decide (r.print.length=1∧r.cells=[0])
  else r.cells.all fun c=>decide (c<64)&&decide (c≠63)&&decide (c≠0)):=rfl
 have E:=hr.print;have F:=hr.cells;by_cases a1:4<r.print.length
 . simp[R1,a1];refine a _ _ ?_;simp[R1,he,a1]
 by_cases a2:r.cells.length<1
 . simp[R1,a1,a2];refine a _ _ ?_;simp[R1,he,a2]
 by_cases a3:4<r.cells.length
 . simp[R1,a1,a2,a3];refine a _ _ ?_;simp[R1,he,a3]
 rw[if_neg j4]at he;have b:=b9Q r.print j4;cases hb:a0m r.print with
 |some k=>
  simp only[b0O,hb]at b;simp[R1,a1,a2,a3];refine l8 b ?_;simp;refine a _ _ ?_;simp[R1,he,hb]
 |none=>
  simp only[b0O,hb]at b;rw[if_neg (by simp[hb])]at he;by_cases d:r.left<1
  . simp[R1,a1,a2,a3];refine l8 b ?_;simp[d];refine a _ _ ?_;simp[R1,he,d]
  by_cases f:63<r.left
  . simp[R1,a1,a2,a3];refine l8 b ?_;simp[d,f];refine a _ _ ?_;simp[R1,he,f]
  by_cases g:r.right<1
  . simp[R1,a1,a2,a3];refine l8 b ?_;simp[d,f,g];refine a _ _ ?_;simp[R1,he,g]
  by_cases i:63<r.right
  . simp[R1,a1,a2,a3];refine l8 b ?_;simp[d,f,g,i];refine a _ _ ?_;simp[R1,he,i]
  rw[if_neg j4]at he;by_cases l:m≤r.src
  . simp[R1,a1,a2,a3];refine l8 b ?_;simp[d,f,g,i,l];refine a _ _ ?_;simp[R1,he,l]
  by_cases p:m≤r.dst
  . simp[R1,a1,a2,a3];refine l8 b ?_;simp[d,f,g,i,l,p];refine a _ _ ?_;simp[R1,he,p]
  rw[if_neg j4]at he;have q:=c6Z r.print j4;cases hs:a3o r.print
  . rw[if_neg (by simp[hs])]at he;rw[hs]at q;simp[R1,a1,a2,a3];refine l8 b ?_;simp[d,f,g,i,l,p];refine l8 q ?_;simp;refine I6 (fun(k:Nat) vs h=>k≤r.cells.length∧(∀j,(hj:j<r.cells.length)→j<k→(r.cells[j]<64∧r.cells[j]≠63∧r.cells[j]≠0))∧
     vs=[.uu,.uu,.uu,.uu,.uu,.uu,.uu,.uu,.uu,.uu,.uu,CL r.cells,IN r.cells.length,IN k,.uu,.uu]∧h=[(0,.dead)]) (fun k=>r.cells.length-k) 0 ?_ ?_
    . simp
    . rintro k vs h ⟨g1,g2,rfl,rfl⟩ Q' y z u;by_cases n:k<r.cells.length
      . have hw:=wk1 k j4;have v:¬(r.cells[k]<64∧r.cells[k]≠63∧r.cells[k]≠0)→a0B r m=false:=fun A=>by
         rw[he,List.all_eq_false];exact⟨r.cells[k],C4 n,by simpa[and_assoc]using A⟩
        have s:=c4V r.cells[k];by_cases o:r.cells[k]<64
        . by_cases t:r.cells[k]=63
          . simp[n];refine l8 s ?_;simp[o,t];refine u _ _ ?_;simp;refine a _ _ ?_;simp[R1,v (by simp[t])]
          . by_cases w:r.cells[k]=0
            . simp[n];refine l8 s ?_;simp[o,t,w];refine u _ _ ?_;simp;refine a _ _ ?_;simp[R1,v (by simp[w])]
            . simp[n];refine l8 s ?_;simp[o,t,w,hw];refine y (k+1) _ _ j4 ?_;simp
              grind
        . simp[n];refine l8 s ?_;simp[o];refine u _ _ ?_;simp;refine a _ _ ?_;simp[R1,v (by simp[o])]
      . obtain rfl:k=r.cells.length:=j4;have:a0B r m=true:=by
         rw[he,B5];intro c C;obtain⟨j,hj,rfl⟩:=a1I C
         grind
        simp;refine z _ _ _ ?_;simp;refine a _ _ ?_;simp[R1,this]
  . rw[if_pos hs]at he;rw[hs]at q;simp[R1,a1,a2,a3];refine l8 b ?_;simp[d,f,g,i,l,p];refine l8 q ?_;by_cases f1:r.print.length=1
    . by_cases f2:r.cells.length=1
      . obtain⟨c0,x⟩:=a9K.1 f2;rw[x]at he;simp[f1,x];refine a _ _ ?_;simp[R1,he,f1]
      . have:¬r.cells=[0]:=fun e=>f2 (by rw[e];rfl);simp[f1,f2];refine a _ _ ?_;simp[R1,he,f1,this]
    . simp[f1];refine a _ _ ?_;simp[R1,he,f1]
def T5(t:k7):Bool:=
 if t.modes<1∨8<t.modes then false
 else if t.accept=0∨2^t.modes≤t.accept then false
 else if t.rules.length<1∨64<t.rules.length then false
 else(t.rules.all fun r=>a0B r t.modes)&&decide t.rules.Nodup
def b2z(t:k7)(k:Nat):Prop:=(∀j,(hj:j<t.rules.length)→j<k→a0B t.rules[j] t.modes=true)∧∀i j,(hj:j<t.rules.length)→(hi:i<j)→j<k→t.rules[i]≠t.rules[j]
theorem b5X{t:k7}(h:b2z t t.rules.length):((t.rules.all fun r=>a0B r t.modes)&&decide t.rules.Nodup)=true:=by obtain⟨h1,a⟩:=h;rw[E7];refine⟨B5.2 fun r hr=>?_,decide_eq_true (a6c.2 fun i j hi hj b=>a i j hj b hj)⟩;obtain⟨j,hj,rfl⟩:=a1I hr;exact h1 j hj hj
theorem c1z{m:Nat}(h:m≤8):IntKind.i64.wrap (2^min m 64)=((2^m:Nat):Int):=by
 have:∀n:Fin 9,IntKind.i64.wrap (2^min n.val 64)=((2^n.val:Nat):Int):=by decide+kernel
 exact this ⟨m,j4⟩
abbrev dd:Row:=(0,.dead)
theorem b7K(t:k7)(u:OkT t):∃i e:Int,(e=0↔T5 t=true)∧F0 30 [0,0] [TP t] (.tup [I i,I e]):=by
 suffices x:∃r,(∃i e:Int,(e=0↔T5 t=true)∧r=.tup [I i,I e])∧F0 30 [0,0] [TP t] r by obtain⟨r,⟨i,e,h1,rfl⟩,c⟩:=x;exact⟨i,e,h1,c⟩
 refine a3u mixed (X:=X30) c30 5 (by simp[X30]) (by kernel_rfl) fun Q a L=>?_;have d:T5 t=(if t.modes<1∨8<t.modes then false
  else if t.accept=0∨2^t.modes≤t.accept then false
  else if t.rules.length<1∨64<t.rules.length then false
  else(t.rules.all fun r=>a0B r t.modes)&&decide t.rules.Nodup):=rfl
 have b:∀i e:Int,e≠0→T5 t=false→∃y v:Int,(v=0↔T5 t=true)∧PV.tup [I i,I e]=.tup [I y,I v]:=fun i e he h=>⟨i,e,by simp[he,h],rfl⟩
 by_cases a1:t.modes<1
 . simp[X30,a1];refine a _ _ _ (b (-1) 1 H9 (by grind)) ?_;simp[X30]
 by_cases a2:8<t.modes
 . simp[X30,a1,a2];refine a _ _ _ (b (-1) 1 H9 (by grind)) ?_;simp[X30]
 rw[if_neg j4]at d;by_cases a3:t.accept=0
 . simp[X30,a1,a2,a3];refine a _ _ _ (b (-1) 1 H9 (by grind)) ?_;simp[X30]
 have n:=c1z (m:=t.modes) j4;have M:=u.accept;have o:IntKind.i64.wrap (t.accept:Int)=t.accept:=T3;have p:((2:Int)^t.modes≤(t.accept:Int))=(2^t.modes≤t.accept):=by grind
 by_cases a4:2^t.modes≤t.accept
 . simp[X30,a1,a2,a3,IntKind.bits,n,o,p,a4];refine a _ _ _ (b (-1) 1 H9 (by grind)) ?_;simp[X30]
 rw[if_neg j4]at d;by_cases a5:t.rules.length<1
 . have z:t.rules=[]:=a0U.1 j4;simp[X30,a1,a2,a3,IntKind.bits,n,o,p,a4,z];refine a _ _ _ (b (-1) 1 H9 (by grind)) ?_;simp[X30]
 by_cases a6:64<t.rules.length
 . simp[X30,a1,a2,a3,IntKind.bits,n,o,p,a4,a5,a6];refine a _ _ _ (b (-1) 1 H9 (by grind)) ?_;simp[X30]
 rw[if_neg j4]at d;simp[X30,a1,a2,a3,IntKind.bits,n,o,p,a4,a5,a6];refine I6 (fun(k:Nat) vs h=>k≤t.rules.length∧b2z t k∧vs=[.uu,.ptr 3 1 0,.uu,.uu,.uu,.uu,.uu,.uu,.uu,.uu,.slc (t.rules.map RP),IN t.rules.length,IN k,.uu,.uu,.uu,.uu,.uu,.uu,.uu]∧
  h=[dd,dd,dd,(1,.var [IN t.modes,UN t.accept,.slc (t.rules.map RP)]),dd]) (fun k=>t.rules.length-k) 0 ?_ ?_
 . simp;exact⟨fun j _ h=>absurd h j4,fun i j _ _ h=>absurd h j4⟩
 . rintro k vs h ⟨g1,g2,rfl,rfl⟩ Q' A B w;by_cases f:k<t.rules.length
   . have hw:=wk1 k j4;have C:=u.a1n _ (C4 f);have q:=c6c t.rules[k] t.modes C j4;cases hs:a0B t.rules[k] t.modes
     . have g:T5 t=false:=by
        rw[d,show(t.rules.all fun r=>a0B r t.modes)=false from List.all_eq_false.2 ⟨_,C4 f,by simp[hs]⟩];rfl
       rw[hs]at q;simp[f];refine l8 q ?_;simp;refine w _ _ ?_;simp;refine a _ _ _ (b k 20 H9 g) ?_;simp[X30]
     . rw[hs]at q;simp[f];refine l8 q ?_;simp[show k≤t.rules.length by omega];refine I6 (fun(j:Nat) vs h=>j≤k∧(∀i,(hi:i<j)→(l:j≤k)→t.rules[i]≠t.rules[k])∧vs=[.uu,.ptr 3 1 0,.uu,.uu,IN k,.ptr 4 1 0,.uu,.uu,.uu,.uu,.slc (t.rules.map RP),IN t.rules.length,IN k,.uu,.uu,.slc ((t.rules.map RP).take k),IN k,IN j,.uu,.uu]∧
        h=[dd,dd,dd,(1,.var [IN t.modes,UN t.accept,.slc (t.rules.map RP)]),(1,.var [St t.rules[k].print,CL t.rules[k].cells,UN t.rules[k].left,UN t.rules[k].right,IN t.rules[k].src,IN t.rules[k].dst])]) (fun j=>k-j) 0 ?_ ?_
       . simp[show k≤t.rules.length by omega]
       . rintro j vs h ⟨D,E,rfl,rfl⟩ Q'' F G H;by_cases hj:j<k
         . have s:j<t.rules.length:=j4;have J:=wk1 j j4;have heq:=c3w t.rules[j] t.rules[k] (by have:=(u.a1n _ (C4 s)).cells;omega);by_cases l:t.rules[j]=t.rules[k]
           . have g:T5 t=false:=by
              rw[d,show decide t.rules.Nodup=false from decide_eq_false fun K=>a6c.1 K j k s f hj l,Bool.and_false]
             simp only[l,decide_true]at heq;simp[hj,s,l];refine l8 heq ?_;simp;refine H _ _ ?_;simp;refine w _ _ ?_;simp;refine a _ _ _ (b k 20 H9 g) ?_;simp[X30]
           . simp only[l,decide_false]at heq;simp[hj,s];refine l8 heq ?_;simp[J];refine F (j+1) _ _ j4 ?_;simp;refine⟨j4,fun i hi N=>?_⟩;by_cases c:i<j
             . exact E i c D
             . grind
         . obtain rfl:j=k:=j4;simp;refine G _ _ _ ?_;simp[hw];refine A (j+1) _ _ j4 ?_;simp;refine⟨j4,fun i hi O=>?_,fun i m hm hi P=>?_⟩
           . by_cases c:i<j
             . exact g2.1 i hi c
             . obtain rfl:i=j:=j4;exact hs
           . by_cases c:m<j
             . exact g2.2 i m hm hi c
             . grind
   . obtain rfl:k=t.rules.length:=j4;have g:T5 t=true:=(by rw[d];exact b5X g2);simp;refine B _ _ _ ?_;simp;refine a _ _ _ ⟨0,0,by simp[g],rfl⟩ ?_;simp[X30]
theorem b4x(t:k7)(a:OkT t):F0 39 [0] [TP t] (B (T5 t)):=by refine E1 c39 1 (by simp[X39]) fun Q b f=>?_;obtain⟨i,e,he,c⟩:=b7K t a;simp[X39];refine l8 c ?_;simp;refine b _ _ ?_;simp[X39];cases d:T5 t<;>simp[d]at he⊢ <;>exact he
structure a2d(s:State):Prop where
 mode:s.mode<8
 last:s.last≤5
 need:s.need<64
theorem a2d.ok{s:State}(h:a2d s):OkS s:=⟨by have:=h.mode;omega,h.last,by have:=h.need;omega⟩
theorem b3L:a2d start:=⟨H9,H9,H9⟩
structure s7(t:k7):Prop where
 m1:1≤t.modes
 m8:t.modes≤8
 a0:t.accept≠0
 a8:t.accept<2^t.modes
 l1:1≤t.rules.length
 l64:t.rules.length≤64
 sound:∀r∈t.rules,a0B r t.modes=true
 nodup:t.rules.Nodup
theorem a7a(t:k7):T5 t=true↔s7 t:=by
 unfold T5;constructor
 . intro h;split at h
   . cases h
   split at h
   . cases h
   split at h
   . cases h
   rw[E7,B5,decide_eq_true_eq]at h;exact⟨j4,j4,j4,j4,j4,j4,h.1,h.2⟩
 . rintro⟨h1,c,d,e,f,g,a,b⟩;rw[if_neg j4,if_neg j4,if_neg j4,E7,B5,decide_eq_true_eq];exact⟨a,b⟩
structure Snd(r:I4)(m:Nat):Prop where
 p4:r.print.length≤4
 c1:1≤r.cells.length
 c4:r.cells.length≤4
 text:a0m r.print=none
 left1:1≤r.left
 left:r.left≤63
 right1:1≤r.right
 right:r.right≤63
 src:r.src<m
 dst:r.dst<m
 cell:∀c∈r.cells,c<63
theorem a3d{r:I4}{m:Nat}(h:a0B r m=true):Snd r m:=by
 unfold a0B at h;split at h
 . cases h
 split at h
 . cases h
 rename_i hb;split at h
 . cases h
 split at h
 . cases h
 have a:a0m r.print=none:=by simpa using hb
 refine⟨j4,j4,j4,a,j4,j4,j4,j4,j4,j4,?_⟩;split at h
 . grind
 . grind
theorem s7.snd{t:k7}(h:s7 t){r:I4}(hr:r∈t.rules):Snd r t.modes:=a3d (h.sound r hr)
theorem s7.ok{t:k7}(h:s7 t):OkT t:=by have b:2^t.modes≤2^8:=Nat.pow_le_pow_right H9 h.m8;refine⟨by have:=h.m8;omega,by have:=h.a8;omega,by have:=h.l64;omega,fun r hr=>?_⟩;have s:=h.snd hr;have:=h.m8;exact⟨by have:=s.p4;omega,by have:=s.c4;omega,fun c a=>by have:=s.cell c a;omega,by have:=s.left;omega,by have:=s.right;omega,by have:=s.src;omega,by have:=s.dst;omega⟩
theorem b9l{t:k7}{s s':State}{k:Nat}(a:s7 t)(hs:a2d s)(h:step t s k=some s'):a2d s':=by
 unfold step at h;obtain⟨r,hr,h⟩:=X1.1 h;have b:=a.snd (D0 hr);have hd:r.dst<8:=by have:=b.dst;have:=a.m8;omega
 unfold a5K at h;split at h
 . cases h
 split at h
 . split at h
   . cases h
   . cases h;exact⟨hd,hs.last,Nat.lt_of_le_of_lt Nat.and_le_left hs.need⟩
 . split at h
   . cases h
   . cases h;exact⟨hd,b1q _,by have:=b.right;show r.right<64;omega⟩
def code(s:State):Nat:=(s.mode*6+s.last)*64+s.need
theorem c7y{s:State}(h:a2d s):code s<3072:=by unfold code;have:=h.mode;have:=h.last;have:=h.need;omega
theorem b8p{a b:State}(c:a2d a)(hb:a2d b)(h:code a=code b):a=b:=by unfold code at h;have:=c.last;have:=hb.last;have:=c.need;have:=hb.need;cases a;cases b;simp only[State.mk.injEq]at*;omega
theorem a3A:∀(n:Nat) (l:List Nat),l.Nodup→(∀x∈l,x<n)→l.length≤n
 |0,l,_,h=>by cases l with|nil=>simp|cons a l=>exact absurd (h a a3x) j4
 |n+1,l,b,h=>by
  have h1:=a3A n (l.erase n) (b.erase n) fun x c=>by have d:=h x (List.mem_of_mem_erase c);have:x≠n:=fun e=>(by subst e;exact absurd c (b.not_mem_erase));omega
  have:=List.length_erase_le (a:=n) (l:=l);have f:l.length≤(l.erase n).length+1:=by grind
  omega
theorem c3v{l:List State}(b:l.Nodup)(a:∀s∈l,a2d s):l.length≤3072:=by
 have:=a3A 3072 (l.map code) (by
  rw[a9M,List.pairwise_map];exact(a9M.1 b).imp_of_mem fun c hb d e=>d (b8p (a _ c) (a _ hb) e)) fun x f=>by
  obtain⟨s,hs,rfl⟩:=G7.1 f;exact c7y (a s hs)
 simpa using this
abbrev Ex:=List State×List (List Nat)
def a5l(t:k7)(k:Nat)(a:Ex)(a1n:Nat):Ex:=
 match step t (a.1.getD k D5) a1n with
 |none=>a
 |some nx=>match a.1.idxOf? nx with
  |some n=>(a.1,a.2.set n (a.2.getD n []++[k]))
  |none=>(a.1++[nx],a.2++[[k]])
def Y6(t:k7)(k:Nat)(a:Ex)(j:Nat):Ex:=(List.range j).foldl (a5l t k) a
def a1e(t:k7):Nat→Nat→Ex→Ex
 |0,_,a=>a
 |f+1,k,a=>if k<a.1.length then a1e t f (k+1) (Y6 t k a t.rules.length)else a
def explore(t:k7):Ex:=a1e t 3073 0 ([start],[[]])
structure Inv(b:Nat)(a:Ex):Prop where
 nodup:a.1.Nodup
 val:∀s∈a.1,a2d s
 len:a.2.length=a.1.length
 short:∀l∈a.2,l.length≤b
 pos:1≤a.1.length
theorem Inv.le{b:Nat}{a:Ex}(h:Inv b a):a.1.length≤3072:=c3v h.nodup h.val
theorem c4B{t:k7}(i:s7 t){b k a1n:Nat}{a:Ex}(h:Inv b a)(j:k<a.1.length):Inv (b+1) (a5l t k a a1n)∧a.1.length≤(a5l t k a a1n).1.length:=by
 have m:a.1.getD k D5=a.1[k]:=by grind
 unfold a5l;split
 . exact⟨⟨h.nodup,h.val,h.len,fun l c=>by have:=h.short l c;omega,h.pos⟩,p7 _⟩
 . rename_i nx hs;rw[m]at hs;have o:=b9l i (h.val _ (C4 j)) hs;split
   . rename_i n d;refine⟨⟨h.nodup,h.val,by simp[h.len],fun l c=>?_,h.pos⟩,p7 _⟩;have f:n<a.2.length:=by
      rw[h.len];have:=a1W.1 d;obtain⟨h1,_⟩:=this;exact h1
     rcases a5o c with c|rfl
     . have:=h.short l c;omega
     . have:=h.short _ (C4 f);rw[B0,l9 f];simp;omega
   . rename_i d;have hm:nx∉a.1:=(by grind);refine⟨⟨?_,fun s hs=>?_,by simp[h.len],fun l c=>?_,k8⟩,k8⟩
     . rw[a6d];exact⟨h.nodup,k8,fun x p y g=>by simp at g;subst g;exact fun e=>hm (e▸p)⟩
     . rcases I5.1 hs with hs|hs
       . exact h.val s hs
       . simp at hs;subst hs;exact o
     . rcases I5.1 c with c|c
       . have:=h.short l c;omega
       . simp at c;subst c;simp
theorem b1j(t:k7)(k:Nat)(a:Ex)(j:Nat):Y6 t k a (j+1)=a5l t k (Y6 t k a j) j:=by unfold Y6;rw[a2F,b2a];rfl
theorem a5T{t:k7}(c:s7 t){b k:Nat}{a:Ex}(h:Inv b a)(d:k<a.1.length):∀j,Inv (b+j) (Y6 t k a j)∧a.1.length≤(Y6 t k a j).1.length
 |0=>⟨h,p7 _⟩
 |j+1=>by obtain⟨h1,f⟩:=a5T c h d j;rw[b1j];obtain⟨e,g⟩:=c4B c (a1n:=j) h1 (by omega:k<_);exact⟨e,j4⟩
theorem a8c:Inv 0 ([start],[[]]):=⟨k8,fun s hs=>by simp at hs;subst hs;exact b3L,rfl,fun l a=>by simp at a;subst a;simp,k8⟩
abbrev FW(l:List Nat):PV:=if l=[]then .nils else .uslc (l.map IN)
abbrev F9(L:List State):List PV:=L.map SP
theorem c3x(a b:State):a1g (SP a) (SP b)=some (decide (a=b)):=by cases a;cases b;simp[a1g,V7,a1d,Bool.and_comm,Bool.and_assoc]
theorem b7k(s:State):∀(L:List State) (i:Nat),a0q (SP s) (L.map SP) i=some ((L.idxOf? s).map (· +i))
 | [],i=>rfl
 |a::L,i=>by
  simp only[a0s,a0q];rw[c3x,b7k s L (i+1)];by_cases h:a=s
  . grind
  . have h':¬s=a:=fun e=>h e.symm;simp[h',List.idxOf?,List.findIdx?_cons,h];cases List.findIdx? (fun x=>x==s) L<;>simp;omega
@[simp] theorem d2H(m l n:Nat)(L:List State):a0q (.agg [.int .i64 m,.int .i64 l,.int .u8 n]) (L.map SP) 0=some (L.idxOf? ⟨m,l,n⟩):=by have:=b7k ⟨m,l,n⟩ L 0;simpa using this
@[simp] theorem d2v(l:List Nat):List.map (B6∘IN) l=l.map IN:=O1 fun _ _=>rfl
@[simp] theorem d3u(l:List Nat):List.map (B6∘UN) l=l.map UN:=O1 fun _ _=>rfl
@[simp] theorem d4K(l:List State):List.map (B6∘SP) l=l.map SP:=O1 fun _ _=>rfl
@[simp] theorem d3W:FW []=.nils:=rfl
@[simp] theorem d4z(a:Nat)(l:List Nat):FW (a::l)=.uslc (IN a::l.map IN):=rfl
theorem c4d(F:List (List Nat)):∀x,x∈F→D9 (FW x)=true:=fun x _=>by unfold FW;split<;>rfl
@[simp ↓] theorem d3C(F:List (List Nat)):(∀x,x∈F→D9 (FW x)=true)=True:=eq_true (c4d F)
theorem b5V(t:k7)(m:s7 t):F0 111 [3,1] [TP t] (.tup [.uslc (F9 (explore t).1),.uslc ((explore t).2.map FW)]):=by
 refine E1 c111 17 (by simp[b0D]) fun Q D ab=>?_;simp[b0D];refine l8 c0c ?_;simp;refine I6 (fun(p:Nat×Ex) vs h=>a1e t (3073-p.1) p.1 p.2=explore t∧Inv (p.1*64) p.2∧p.1≤p.2.1.length∧
  vs=[.uu,.ptr 12 1 0,.uu,.uu,.uu,.own 13 1 p.2.1.length 3 0 p.2.1.length,.own 14 1 p.2.2.length 1 0 p.2.2.length,.mapv 15 1,IN p.1,.uu,.uu,.uu,.uu,.uu,.uu,.uu,.uu,.uu,.uu,.uu]∧
  h=[dd,dd,dd,dd,dd,dd,dd,dd,dd,dd,dd,dd,(1,.var [IN t.modes,UN t.accept,.slc (t.rules.map RP)]),(1,.arr 3 0 false (F9 p.2.1)),(1,.arr 1 0 false (p.2.2.map FW)),(1,.mp false (F9 p.2.1) ((List.range p.2.1.length).map IN)),dd]) (fun p=>3073-p.1) (0,([start],[[]])) ?_ ?_
 . simp;exact⟨rfl,a8c⟩
 . rintro⟨k,L,F⟩ vs h ⟨g1,g2,g3,rfl,rfl⟩ Q' E G ac;dsimp only at g1 g2 g3;have ad:=m.l64;have H:=g2.le;dsimp only at H;have I:=g2.len;dsimp only at I;by_cases o:k<L.length
   . have hw:=wk1 k j4;simp[o];refine I6 (fun(j:Nat) vs h=>j≤t.rules.length∧
      vs=[.uu,.ptr 12 1 0,.uu,.uu,.uu,.own 13 1 (Y6 t k (L,F) j).1.length 3 0 (Y6 t k (L,F) j).1.length,.own 14 1 (Y6 t k (L,F) j).2.length 1 0 (Y6 t k (L,F) j).2.length,.mapv 15 1,IN k,.uu,.uu,.uu,.uu,.uu,.uu,IN t.rules.length,IN j,.uu,.uu,.uu]∧
      h=[dd,dd,dd,dd,dd,dd,dd,dd,dd,dd,dd,dd,(1,.var [IN t.modes,UN t.accept,.slc (t.rules.map RP)]),(1,.arr 3 0 false (F9 (Y6 t k (L,F) j).1)),(1,.arr 1 0 false ((Y6 t k (L,F) j).2.map FW)),(1,.mp false (F9 (Y6 t k (L,F) j).1) ((List.range (Y6 t k (L,F) j).1.length).map IN)),dd]) (fun j=>t.rules.length-j) 0 ?_ ?_
     . simp[Y6]
     . rintro j vs h ⟨ae,rfl,rfl⟩ Q2 q J af;obtain⟨c,i2⟩:=a5T m g2 o j;have b:=b1j t k (L,F) j;by_cases hj:j<t.rules.length
       . have r:=wk1 j j4;generalize Y6 t k (L,F) j=A at c i2 b;obtain⟨L',F'⟩:=A;have s:k<L'.length:=(by grind);have K:=c.le;have z:=c.len;dsimp only at K z;have g:=b1p t L'[k] j m.ok (c.val _ (C4 s)).ok j4;have M:L'.getD k D5=L'[k]:=(by grind);unfold a5l at b;simp only[M]at b;cases hs:step t L'[k] j with
         |none=>
          simp only[hs]at b;simp only[a1C,hs]at g;simp[hj,s];refine l8 g ?_;simp[r];refine q (j+1) _ _ j4 ?_;simp[b];omega
         |some nx=>
          simp only[hs]at b;simp only[a1C,hs]at g;cases e:L'.idxOf? nx with
          |some n=>
           simp only[e]at b;have B:n<L'.length:=by obtain⟨h1,_⟩:=a1W.1 e;exact h1
           have u:n<F'.length:=j4;have N:F'.getD n []=F'[n]:=(by grind);rw[N]at b;simp[hj,s];refine l8 g ?_;by_cases v:F'[n]=[]
           . rw[v]at b;obtain⟨F3,d⟩:=Q8 (F'.set n ([]++[k]));have f:(List.map FW F').set n (.uslc [IN k])=List.map FW F3:=(by rw[←d,L6];rfl);have i:F'.length=F3.length:=(by rw[←d];simp);rw[d]at b;simp[r,e,B,u,v,f];refine q (j+1) _ _ j4 ?_;simp[b,i];omega
           . obtain⟨a,l,w⟩:=a9L v;rw[w]at b;obtain⟨F3,d⟩:∃F3,F'.set n ((a::l)++[k])=F3:=⟨_,rfl⟩
             have O:FW F'[n]=.uslc (IN a::l.map IN):=(by rw[w];rfl);have f:(List.map FW F').set n (.uslc (IN a::(l.map IN++[IN k])))=List.map FW F3:=(by rw[←d,L6];simp);have i:F'.length=F3.length:=(by rw[←d];simp);have P:=c.short _ (C4 u);rw[w]at P;have R:(l.length+1+1)*8≤140737488355328:=(by grind);rw[d]at b;simp[r,e,B,u,O,f,R];refine q (j+1) _ _ j4 ?_;simp[b,f,i];omega
          |none=>
           simp only[e]at b;obtain⟨L2,x⟩:=Q8 (L'++[nx]);have S:F9 L'++[.agg [IN nx.mode,IN nx.last,UN nx.need]]=F9 L2:=(by rw[←x];simp);have C:L'.length+1=L2.length:=(by rw[←x];simp);have T:List.map IN (List.range L'.length)++[IN L'.length]=List.map IN (List.range L2.length):=(by rw[←C,a2F];simp);obtain⟨F2,y⟩:=Q8 (F'++[[]]);have U:List.map FW F'++[.nils]=List.map FW F2:=(by rw[←y];simp);have V:F'.length+1=F2.length:=(by rw[←y];simp);have W:L2.length*24≤140737488355328:=j4;have X:F2.length*24≤140737488355328:=j4;simp[hj,s];refine l8 g ?_;have Y:L'.length<F2.length:=j4;have Z:F2[L'.length]=[]:=(by grind);obtain⟨F3,d⟩:=Q8 (F'++[[k]]);have f:(List.map FW F2).set L'.length (.uslc [IN k])=List.map FW F3:=by rw[←y,←d,←z];simp
           have i:F2.length=F3.length:=(by grind);rw[x,d]at b;simp[r,e,S,C,T,U,V,W,X,Z,Y,f];refine q (j+1) _ _ j4 ?_;simp[b,i];omega
       . obtain rfl:j=t.rules.length:=j4;simp;refine J _ _ _ ?_;simp[hw];refine E (k+1,Y6 t k (L,F) t.rules.length) _ _ j4 ?_;obtain⟨c,i2⟩:=a5T m g2 o t.rules.length;dsimp only at i2;have hex:a1e t (3073-k) k (L,F)=a1e t (3072-k) (k+1) (Y6 t k (L,F) t.rules.length):=by
          rw[show 3073-k=(3072-k)+1 by omega];simp only[a1e];rw[if_pos o]
         rw[hex]at g1;simp;refine⟨g1,⟨c.nodup,c.val,c.len,fun l aa=>by have:=c.short l aa;omega,c.pos⟩,j4⟩
   . obtain rfl:k=L.length:=j4;simp;refine G _ _ _ ?_;simp;refine D _ _ ?_;have hex:explore t=(L,F):=by
      rw[←g1,show 3073-L.length=(3072-L.length)+1 by omega];simp only[a1e];rw[if_neg j4]
     simp[b0D,hex]
def E5(t:k7):State→List Nat→Option State
 |s,[]=>some s
 |s,k::p=>(step t s k).bind fun s'=>E5 t s' p
def Live(t:k7)(s:State):Prop:=∃p s',E5 t s p=some s'∧B8 t s'=true
abbrev j8(t:k7):List State:=(explore t).1
open Classical in
noncomputable def L8(t:k7):List Bool:=(j8 t).map fun s=>decide (Live t s)
theorem b5M{t:k7}{s:State}(h:B8 t s=true):Live t s:=⟨[],s,rfl,h⟩
theorem c0L{t:k7}{s s':State}{k:Nat}(h:step t s k=some s')(a:Live t s'):Live t s:=by obtain⟨p,s2,h1,b⟩:=a;exact⟨k::p,s2,by simp[E5,h,h1],b⟩
theorem a5N(t:k7):∀(p q:List Nat) (s:State),E5 t s (p++q)=(E5 t s p).bind fun s'=>E5 t s' q
 | [],q,s=>rfl
 |k::p,q,s=>by
  simp only[a6X,E5];cases step t s k with
  |none=>rfl
  |some s'=>exact a5N t p q s'
theorem b3F{t:k7}(a:s7 t):∀{p:List Nat} {s s':State},a2d s→E5 t s p=some s'→a2d s'
 | [],s,s',hs,h=>by cases h;exact hs
 |k::p,s,s',hs,h=>by simp only[E5]at h;obtain⟨s1,h1,b⟩:=X1.1 h;exact b3F a (b9l a hs h1) b
structure Part(t:k7)(k j:Nat)(a:Ex):Prop where
 len:a.2.length=a.1.length
 next:∀i (hi:i<a.1.length) m s',(i<k∨i=k∧m<j)→step t a.1[i] m=some s'→∃n,a.1[n]?=some s'∧i∈a.2.getD n []
 back:∀n i,i∈a.2.getD n []→∃(hi:i<a.1.length) (m:Nat),step t a.1[i] m=a.1[n]?
 root:a.1[0]?=some start
 come:∀s∈a.1,∃p,E5 t start p=some s
theorem a2B{t:k7}{s s':State}{m:Nat}(h:step t s m=some s'):m<t.rules.length:=by
 unfold step at h
 grind
theorem b7J{l:List (List Nat)}{n i:Nat}(h:i∈l.getD n []):n<l.length:=by
 refine Classical.byContradiction fun a=>?_
 grind
theorem c4y{t:k7}{k j:Nat}{a:Ex}(h:Part t k j a)(o:k<a.1.length):Part t k (j+1) (a5l t k a j):=by
 have w:a.1.getD k D5=a.1[k]:=by rw[B0,l9 o];rfl
 unfold a5l;rw[w];split
 . rename_i hs;refine⟨h.len,fun i hi m s' hm c=>?_,h.back,h.root,h.come⟩;refine h.next i hi m s' ?_ c
   grind
 . rename_i nx hs;split
   . rename_i n q;obtain⟨x,r,_⟩:=a1W.1 q;have r:a.1[n]=nx:=(by simpa using r);have y:n<a.2.length:=(by rw[h.len];exact x);have z:∀b,(a.2.set n (a.2.getD n []++[k])).getD b []=if n=b then a.2.getD b []++[k]else a.2.getD b []:=fun b=>by
      simp only[B0];by_cases e:n=b
      . subst e;rw[E8 y,if_pos rfl];rfl
      . rw[F4 e,if_neg e]
     refine⟨by simp[h.len],fun i hi m s' hm c=>?_,fun b i hi=>?_,h.root,h.come⟩
     . by_cases f:i=k∧m=j
       . obtain⟨rfl,rfl⟩:=f
         grind
       . obtain⟨b,h1,u⟩:=h.next i hi m s' (by
          rcases hm with hm|⟨g,A⟩
          . exact .inl hm
          . exact .inr ⟨g,by have:m≠j:=fun e=>f ⟨g,e⟩;omega⟩) c
         grind
     . dsimp only at hi⊢;rw[z]at hi;split at hi
       . rename_i e;subst e;rcases I5.1 hi with hi|hi
         . exact h.back n i hi
         grind
       . exact h.back b i hi
   . rename_i q;have B:∀(i:Nat) (hi:i<a.1.length),(a.1++[nx])[i]'F6=a.1[i]:=fun i hi=>List.getElem_append_left hi;have C:∀b,b<a.1.length→(a.2++[[k]]).getD b []=a.2.getD b []:=fun b l=>by
      simp only[B0];rw[a1k (by rw[h.len];exact l)]
     have E:(a.2++[[k]]).getD a.1.length []=[k]:=by simp only[B0];rw[a4f (by rw[h.len];exact p7 _),h.len,a6a];rfl
     refine⟨by simp[h.len],fun i hi m s' hm c=>?_,fun b i hi=>?_,?_,fun s d=>?_⟩
     . have v:i<a.1.length:=by
        rcases hm with hm|⟨rfl,_⟩<;>omega
       dsimp only at c;rw[B i v]at c;by_cases f:i=k∧m=j
       . obtain⟨rfl,rfl⟩:=f
         grind
       . obtain⟨b,h1,u⟩:=h.next i v m s' (by
          rcases hm with hm|⟨g,A⟩
          . exact .inl hm
          . exact .inr ⟨g,by have:m≠j:=fun e=>f ⟨g,e⟩;omega⟩) c
         grind
     . dsimp only at hi⊢;have D:=b7J hi;simp[h.len]at D;by_cases l:b<a.1.length
       . rw[C b l]at hi;obtain⟨h1,m,u⟩:=h.back b i hi
         grind
       grind
     . have h0:=(C0.1 h.root).1;dsimp only;rw[a1k h0];exact h.root
     . rcases I5.1 d with d|d
       . exact h.come s d
       . simp at d;subst d;obtain⟨p,hp⟩:=h.come _ (C4 o);exact⟨p++[j],by rw[a5N,hp];simp[E5,hs]⟩
theorem b7l{t:k7}{k:Nat}{a:Ex}{b:Nat}(c:s7 t)(d:Inv b a)(h:Part t k 0 a)(e:k<a.1.length):∀j,Part t k j (Y6 t k a j)
 |0=>h
 |j+1=>by rw[b1j];exact c4y (b7l c d h e j) (by have:=(a5T c d e j).2;omega)
theorem c8c{t:k7}{k:Nat}{a:Ex}(h:Part t k t.rules.length a):Part t (k+1) 0 a:=
 ⟨h.len,fun i hi m s' hm b=>h.next i hi m s' (by
  have:=a2B b;rcases hm with hm|⟨_,hm⟩
  . by_cases e:i=k
    . exact .inr ⟨e,this⟩
    . exact .inl j4
  . omega) b,h.back,h.root,h.come⟩
theorem b5c{t:k7}(d:s7 t):∀(f k b:Nat) (a:Ex),Inv b a→Part t k 0 a→k≤a.1.length→3072<f+k→Part t (a1e t f k a).1.length 0 (a1e t f k a)∧∃b,Inv b (a1e t f k a)
 |0,k,b,a,c,h,g,i=>by have:=c.le;omega
 |f+1,k,b,a,c,h,g,i=>by
  simp only[a1e];by_cases e:k<a.1.length
  . rw[if_pos e];obtain⟨j,i2⟩:=a5T d c e t.rules.length;exact b5c d f (k+1) _ _ j (c8c (b7l d c h e _)) j4 j4
  grind
theorem c0n(t:k7):Part t 0 0 ([start],[[]]):=
 ⟨rfl,fun i hi m s' hm a=>j4,fun n i hi=>by have:=b7J hi;simp at this;subst this;simp at hi,rfl,fun s hs=>by simp at hs;subst hs;exact⟨[],rfl⟩⟩
theorem a6h{t:k7}(a:s7 t):Part t (j8 t).length 0 (explore t):=(b5c a 3073 0 0 _ a8c (c0n t) k8 j4).1
theorem b1F{t:k7}(a:s7 t):∃b,Inv b (explore t):=(b5c a 3073 0 0 _ a8c (c0n t) k8 j4).2
theorem c1m{t:k7}(e:s7 t):∀(f k:Nat) (a:Ex),Inv (k*64) a→k≤a.1.length→Inv (3072*64) (a1e t f k a)
 |0,k,a,b,h=>by
  have:=b.le;exact⟨b.nodup,b.val,b.len,fun l c=>by have:=b.short l c;simp only[a1e]at*;omega,b.pos⟩
 |f+1,k,a,b,h=>by
  simp only[a1e];have hle:=b.le;by_cases g:k<a.1.length
  . rw[if_pos g];obtain⟨d,i2⟩:=a5T e b g t.rules.length;have i:=e.l64;exact c1m e f (k+1) _ ⟨d.nodup,d.val,d.len,fun l c=>by have:=d.short l c;omega,d.pos⟩ j4
  . rw[if_neg g];exact⟨b.nodup,b.val,b.len,fun l c=>by have:=b.short l c;omega,b.pos⟩
theorem c9M{t:k7}(a:s7 t):∀l∈(explore t).2,l.length≤3072*64:=(c1m a 3073 0 _ a8c k8).short
theorem a0g{t:k7}(a:s7 t){s s':State}{k:Nat}(hs:s∈j8 t)(h:step t s k=some s'):s'∈j8 t:=by
 obtain⟨i,hi,rfl⟩:=a1I hs;obtain⟨n,h1,_⟩:=(a6h a).next i hi k s' (.inl hi) h
 grind
theorem b1J{t:k7}(a:s7 t):(j8 t).Nodup:=by obtain⟨b,h⟩:=b1F a;exact h.nodup
theorem a3g{t:k7}(a:s7 t){s:State}(hs:s∈j8 t):a2d s:=by obtain⟨b,h⟩:=b1F a;exact h.val s hs
theorem a1F{t:k7}(a:s7 t):(j8 t).length≤3072:=by obtain⟨b,h⟩:=b1F a;exact h.le
theorem a2J{t:k7}(a:s7 t):1≤(j8 t).length:=by obtain⟨b,h⟩:=b1F a;exact h.pos
theorem a2t{t:k7}(a:s7 t):(j8 t)[0]?=some start:=(a6h a).root
theorem b3Y{t:k7}(a:s7 t):∀{p:List Nat} {s s':State},s∈j8 t→E5 t s p=some s'→s'∈j8 t
 | [],s,s',hs,h=>by cases h;exact hs
 |k::p,s,s',hs,h=>by simp only[E5]at h;obtain⟨s1,h1,b⟩:=X1.1 h;exact b3Y a (a0g a hs h1) b
structure AI(t:k7)(A:List Bool)(O:List Nat)(k m:Nat):Prop where
 len:A.length=(j8 t).length
 live:∀i:Nat,A[i]?=some true→∃s,(j8 t)[i]?=some s∧Live t s
 acc:∀(i:Nat) s,(j8 t)[i]?=some s→B8 t s=true→A[i]?=some true
 opn:∀i∈O,A[i]?=some true
 done:∀i:Nat,A[i]?=some true→i∉O→i≠k→∀j∈(explore t).2.getD i [],A[j]?=some true
 cur:∀j∈((explore t).2.getD k []).take m,A[j]?=some true
 kl:k<(j8 t).length→A[k]?=some true
 cnt:O.length+A.count false≤(j8 t).length
theorem b1i{A:List Bool}{i:Nat}(h:A[i]?=some false):(A.set i true).count false+1=A.count false:=by
 induction A generalizing i with
 |nil=>simp at h
 |cons a A b=>
  cases i with
  |zero=>simp at h;subst h;simp
  |succ i=>
   simp only[List.getElem?_cons_succ]at h;have:=b h;simp only[List.set_cons_succ,List.count_cons];omega
theorem AI.skip{t:k7}{A:List Bool}{O:List Nat}{k m j:Nat}(h:AI t A O k m)(hj:((explore t).2.getD k [])[m]?=some j)(a:A[j]?=some true):AI t A O k (m+1):=
 ⟨h.len,h.live,h.acc,h.opn,h.done,fun i hi=>by
  rw[J5,hj]at hi;rcases I5.1 hi with hi|hi
  . exact h.cur i hi
  . simp at hi;subst hi;exact a,h.kl,h.cnt⟩
theorem AI.push{t:k7}(g:s7 t){A:List Bool}{O:List Nat}{k m j:Nat}(h:AI t A O k m)(l:k<(j8 t).length)(hj:((explore t).2.getD k [])[m]?=some j)(c:A[j]?=some false):AI t (A.set j true) (O++[j]) k (m+1):=by
 have d:=(C0.1 c).1;have a:∀i,A[i]?=some true→(A.set j true)[i]?=some true:=fun i hi=>by
  by_cases e:j=i
  . subst e;rw[E8 d]
  . rw[F4 e];exact hi
 have v:(A.set j true)[j]?=some true:=E8 d;refine⟨by simp[h.len],fun i hi=>?_,fun i s h1 b=>a i (h.acc i s h1 b),fun i hi=>?_,fun i hi f n=>?_,fun i hi=>?_,fun h1=>a k (h.kl h1),?_⟩
 . by_cases e:j=i
   . subst e;have o:j∈(explore t).2.getD k []:=D0 hj;obtain⟨h1,w,b⟩:=(a6h g).back k j o;obtain⟨s,p,q⟩:=h.live k (h.kl l);rw[p]at b;exact⟨_,l9 h1,c0L b q⟩
   . rw[F4 e]at hi;exact h.live i hi
 . rcases I5.1 hi with hi|hi
   . exact a i (h.opn i hi)
   grind
 . have r:j≠i:=fun e=>f (by subst e;simp);rw[F4 r]at hi;exact fun x u=>a x (h.done i hi (fun e=>f (a4M _ e)) n x u)
 . rw[J5,hj]at hi;rcases I5.1 hi with hi|hi
   . exact a i (h.cur i hi)
   grind
 . have:=b1i c;have:=h.cnt;simp;omega
theorem AI.full{t:k7}{A:List Bool}{O:List Nat}{k a:Nat}(h:AI t A (O++[a]) k ((explore t).2.getD k []).length):AI t A O a 0:=by
 have hd:∀i,A[i]?=some true→i∉O++[a]→∀j∈(explore t).2.getD i [],A[j]?=some true:=fun i hi b j hj=>by
  by_cases e:i=k
  . subst e;exact h.cur j (by rw[K8];exact hj)
  . exact h.done i hi b e j hj
 refine⟨h.len,h.live,h.acc,fun i hi=>h.opn i (a4M _ hi),fun i hi b c=>hd i hi (fun hm=>?_),fun j hj=>by simp at hj,fun _=>h.opn a k8,by have:=h.cnt;simp at this;omega⟩
 grind
theorem AI.alive{t:k7}(f:s7 t){A:List Bool}{k:Nat}(h:AI t A [] k ((explore t).2.getD k []).length):A=L8 t:=by
 classical
 have hd:∀i,A[i]?=some true→∀j∈(explore t).2.getD i [],A[j]?=some true:=fun i hi j hj=>by
  by_cases e:i=k
  . subst e;exact h.cur j (by rw[K8];exact hj)
  . exact h.done i hi k8 e j hj
 have key:∀(p:List Nat) (i:Nat) (s s':State),(j8 t)[i]?=some s→E5 t s p=some s'→B8 t s'=true→A[i]?=some true:=fun p=>by
  induction p with
  |nil=>intro i s s' h1 b a;cases b;exact h.acc i s h1 a
  |cons m p g=>
   intro i s s' h1 b a;simp only[E5]at b;obtain⟨s1,c,l⟩:=X1.1 b;obtain⟨hi,rfl⟩:=C0.1 h1;obtain⟨n,o,q⟩:=(a6h f).next i hi m s1 (.inl hi) c;exact hd n (g n s1 s' o l a) i q
 refine a0z (by rw[h.len];simp[L8]) fun i h1 b=>?_;simp only[L8,a0V];have hi:i<(j8 t).length:=by rw[←h.len];exact h1
 cases d:A[i]
 . symm;rw[decide_eq_false_iff_not];rintro⟨p,s',a,c⟩;have:=key p i _ s' (l9 hi) a c;rw[l9 h1,d]at this;cases this
 . symm;rw[decide_eq_true_iff];obtain⟨s,a,c⟩:=h.live i (by rw[l9 h1,d]);rw[l9 hi]at a;cases a;exact c
def a1r(t:k7)(i:Nat):List Bool:=(List.range (j8 t).length).map fun j=>decide (j<i)&&B8 t ((j8 t).getD j D5)
def a0E(t:k7)(i:Nat):List Nat:=(List.range i).filter fun j=>B8 t ((j8 t).getD j D5)
theorem a4x(t:k7)(i:Nat):(a1r t i).length=(j8 t).length:=by simp[a1r]
theorem a8g{t:k7}{i j:Nat}(hj:j<(j8 t).length):(a1r t i)[j]?=some (decide (j<i)&&B8 t (j8 t)[j]):=by
 simp only[a1r,H6,List.getElem?_range hj,a2Y]
 grind
theorem c3t{t:k7}{i:Nat}(hi:i<(j8 t).length):a1r t (i+1)=if B8 t (j8 t)[i]then(a1r t i).set i true else a1r t i:=by
 apply a4g;intro j;by_cases hj:j<(j8 t).length
 . rw[a8g hj];split
   . rename_i a;by_cases e:i=j
     . subst e;rw[E8 (by rw[a4x];exact hi)];simp[a]
     . rw[F4 e,a8g hj];congr 2
       grind
   . rename_i a;rw[a8g hj];by_cases e:j=i
     . subst e;simp[a]
     . have:(j<i+1)=(j<i):=(by apply propext;omega);simp[this]
 . rw[a0i (by rw[a4x];omega),a0i];split
   . simp[a4x];omega
   . rw[a4x];omega
theorem d1t{t:k7}{i:Nat}(hi:i<(j8 t).length):a0E t (i+1)=if B8 t (j8 t)[i]then a0E t i++[i]else a0E t i:=by
 unfold a0E;have a:(j8 t).getD i D5=(j8 t)[i]:=by rw[B0,l9 hi];rfl
 rw[a2F,b2d,List.filter_cons,List.filter_nil,a];split<;>simp
theorem b9g(t:k7)(i:Nat):(a0E t i).length≤i:=by have:=List.length_filter_le (fun j=>B8 t ((j8 t).getD j D5)) (List.range i);simpa[a0E]using this
theorem c0I(p:Nat→Bool):∀l:List Nat,(l.filter p).length+(l.map p).count false=l.length
 | []=>rfl
 |a::l=>by
  have:=c0I p l
  grind
theorem AI.init(t:k7):AI t (a1r t (j8 t).length) (a0E t (j8 t).length) (j8 t).length 0:=by
 have a:∀{j},j<(j8 t).length→(a1r t (j8 t).length)[j]?=some (B8 t ((j8 t).getD j D5)):=fun{j} hj=>by rw[a8g hj,B0,l9 hj];simp[hj]
 have c:∀{j b},(a1r t (j8 t).length)[j]?=some b→j<(j8 t).length:=fun h=>by have:=(C0.1 h).1;rwa[a4x]at this
 refine⟨a4x _ _,fun i hi=>?_,fun i s h1 d=>?_,fun i hi=>?_,fun i hi e _=>?_,fun j hj=>by simp at hj,fun h=>absurd h (Nat.lt_irrefl _),?_⟩
 . have:=c hi;rw[a this,B0,l9 this]at hi;exact⟨_,l9 this,b5M (by simpa using hi)⟩
 . have:=(C0.1 h1).1
   grind
 . simp only[a0E,a7U,a2p]at hi;rw[a hi.1,hi.2]
 . exfalso;have:=c hi;rw[a this]at hi;exact e (by simp only[a0E,a7U,a2p];exact⟨this,by simpa using hi⟩)
 . have h1:=c0I (fun j=>B8 t ((j8 t).getD j D5)) (List.range (j8 t).length);have d:a1r t (j8 t).length=(List.range (j8 t).length).map fun j=>B8 t ((j8 t).getD j D5):=by
    unfold a1r;refine O1 fun j hj=>?_;simp[a2p.1 hj]
   rw[d];unfold a0E
   grind
theorem b4s(t:k7)(a:s7 t):F0 76 [3] [TP t] (.uslc (F9 (j8 t))):=by refine E1 c76 3 (by simp[X76]) fun Q b c=>?_;simp[X76];refine l8 (b5V t a) ?_;simp;refine b _ _ ?_;simp[X76]
abbrev FSl(l:List Nat):PV:=.slc (l.map IN)
theorem c8a(F:List (List Nat)):List.map B6 (List.map FW F)=F.map FSl:=by
 rw[a2D];refine O1 fun l _=>?_;cases l with
 |nil=>rfl
 |cons a l=>simp[B6,K5]
theorem c1v(t:k7)(c:s7 t):F0 91 [1] [TP t] (.uslc ((L8 t).map B)):=by
 refine E1 c91 14 (by simp[X91]) fun Q W X=>?_;have hex:=b5V t c;have X:=a1F c;have aw:=a2J c;have Y:=fun s hs=>(a3g c (s:=s) hs).ok;have Z:=c8a (explore t).2;have ax:(explore t).2.length=(j8 t).length:=(a6h c).len;have aa:(j8 t).length≤140737488355328:=j4;have ab:(j8 t).length≤9223372036854775807:=j4;simp[X91];refine l8 hex ?_;simp[Z,aa,ab];refine I6 (fun(i:Nat) vs h=>i≤(j8 t).length∧
  vs=[.uu,.ptr 9 1 0,.uu,.uu,.slc ((explore t).2.map FSl),.own 10 1 (j8 t).length 1 0 (j8 t).length,.own 11 1 (a0E t i).length 1 0 (a0E t i).length,.uu,.uu,.uu,.uu,.slc (F9 (j8 t)),IN (j8 t).length,IN i,.uu,.uu,.uu,.uu,.uu,.uu,.uu,.uu]∧
  h=[dd,dd,dd,dd,dd,dd,dd,dd,dd,(1,.var [IN t.modes,UN t.accept,.slc (t.rules.map RP)]),(1,.arr 1 0 false ((a1r t i).map B)),(1,.arr 1 0 false ((a0E t i).map IN)),dd,dd]) (fun i=>(j8 t).length-i) 0 ?_ ?_
 . simp;have h0:a0E t 0=[]:=rfl;refine⟨by rw[h0];rfl,?_,h0⟩;have hr:a1r t 0=List.replicate (j8 t).length false:=a7X.2 ⟨a4x t 0,fun b hb=>by
    obtain⟨j,hj,rfl⟩:=a1I hb;have h1:=a8g (t:=t) (i:=0) (j:=j) (by rw[a4x]at hj;exact hj);rw[l9 hj]at h1;simpa using h1⟩
   rw[hr,List.map_replicate]
 . rintro i vs h ⟨g1,rfl,rfl⟩ Q' M ac ay;by_cases hi:i<(j8 t).length
   . have hw:=wk1 i j4;have v:=a9n t (j8 t)[i] c.ok (Y _ (C4 hi));have w:=c3t hi;have f:=d1t hi;have y:=a4x t i;have ad:=b9g t i;cases z:B8 t (j8 t)[i]
     . rw[if_neg (by simp[z])]at w f;rw[z]at v;simp[hi];refine l8 v ?_;simp[hw];refine M (i+1) _ _ j4 ?_;simp[w,f];omega
     . rw[if_pos z]at w f;rw[z]at v;have g:((a1r t i).map B).set i (.bool true)=(a1r t (i+1)).map B:=(by rw[w,L6]);have o:(a0E t i).map IN++[IN i]=(a0E t (i+1)).map IN:=(by rw[f];simp);have q:(a0E t i).length+1=(a0E t (i+1)).length:=(by rw[f];simp);have d:i<(a1r t i).length:=j4;have ae:(a0E t (i+1)).length*8≤140737488355328:=j4;simp[hi];refine l8 v ?_;simp[hw,hi,y,g,o,q,d,ae];refine M (i+1) _ _ j4 ?_;simp;omega
   . obtain rfl:i=(j8 t).length:=j4;have az:=AI.init t;simp;refine ac _ _ _ ?_;simp;refine I6 (fun(p:List Bool×List Nat×Nat×Nat) vs h=>AI t p.1 (p.2.1.take p.2.2.1) p.2.2.2 ((explore t).2.getD p.2.2.2 []).length∧p.2.2.1≤p.2.1.length∧p.2.1.length≤(j8 t).length∧
      vs=[.uu,.uu,.uu,.uu,.slc ((explore t).2.map FSl),.own 9 1 p.1.length 1 0 p.1.length,.own 10 1 p.2.1.length 1 0 p.2.2.1,.uu,.uu,.uu,.uu,.uu,.uu,.uu,.uu,.uu,.uu,.uu,.uu,.uu,.uu,.uu]∧
      h=[dd,dd,dd,dd,dd,dd,dd,dd,dd,(1,.arr 1 0 false (p.1.map B)),(1,.arr 1 0 false (p.2.1.map IN)),dd,dd,dd]) (fun p=>2*p.1.count false+p.2.2.1)
      (a1r t (j8 t).length,a0E t (j8 t).length,(a0E t (j8 t).length).length,(j8 t).length) ?_ ?_
     . have aA:(explore t).2.getD (j8 t).length []=[]:=by
        rw[B0,a0i j4];rfl
       have y:=a4x t (j8 t).length;have ad:=b9g t (j8 t).length;simp[y]
       grind
     . rintro⟨A,E,n,k⟩ vs h ⟨e,af,N,rfl,rfl⟩ Q2 ag ah aB;dsimp only at e af N;by_cases ai:n=0
       . subst ai;have r:=AI.alive c (k:=k) (by simpa using e);simp;refine ah _ _ _ ?_;simp;refine W _ _ ?_;simp[X91,r]
       . obtain⟨m,hm⟩:∃m,n=m+1:=⟨n-1,j4⟩
         have aj:0<n:=j4;have ak:IntKind.i64.wrap ((n:Int)-1)=(m:Int):=(by rw[wrap_ok j4 j4];omega);have al:m<n:=j4;have am:m≤n:=j4;have O:m<E.length:=j4;have an:E.take n=E.take m++[E[m]]:=(by rw[hm,J5,l9 O];rfl);rw[an]at e;have P:E[m]<(j8 t).length:=by have:=e.opn E[m] (a7V _ (H5.2 rfl));have:=(C0.1 this).1;rwa[e.len]at this
         have F:E[m]<(explore t).2.length:=j4;have R:=e.full;have S:(explore t).2.getD E[m] []=(explore t).2[E[m]]:=(by grind);have G:∀(x:Nat) (ao:x<((explore t).2[E[m]]).length),((explore t).2[E[m]])[x]<(j8 t).length:=fun x ao=>by obtain⟨h1,_⟩:=(a6h c).back E[m] ((explore t).2[E[m]])[x] (by grind);exact h1
         have T:((explore t).2[E[m]]).length≤1100000000:=by have:=c9M c _ (C4 F);omega
         simp[aj,ak,al,am,O,F];generalize aC:E[m]=C at R P F S G T;generalize aD:(explore t).2[C]=l at S G T;refine I6 (fun(p:Nat×List Bool×List Nat×Nat) vs h=>p.1≤l.length∧AI t p.2.1 (p.2.2.1.take p.2.2.2) C p.1∧p.2.2.2≤p.2.2.1.length∧p.2.2.1.length≤(j8 t).length∧2*p.2.1.count false+p.2.2.2≤2*A.count false+m∧
          vs=[.uu,.uu,.uu,.uu,.slc ((explore t).2.map FSl),.own 9 1 p.2.1.length 1 0 p.2.1.length,.own 10 1 p.2.2.1.length 1 0 p.2.2.2,.uu,.uu,.uu,.uu,.uu,.uu,.uu,.uu,.uu,.uu,.slc (l.map IN),IN l.length,IN p.1,.uu,.uu]∧
          h=[dd,dd,dd,dd,dd,dd,dd,dd,dd,(1,.arr 1 0 false (p.2.1.map B)),(1,.arr 1 0 false (p.2.2.1.map IN)),dd,dd,dd]) (fun p=>l.length-p.1) (0,A,E,m) ?_ ?_
         . simp;exact⟨R,j4,N⟩
         . rintro⟨j,A',E',a⟩ vs h ⟨r1,r2,r3,r4,r5,rfl,rfl⟩ Q3 H ap aE;dsimp only at r1 r2 r3 r4 r5;have y:=r2.len;by_cases hj:j<l.length
           . have I:=wk1 j j4;have hb:=G j hj;have J:l[j]<A'.length:=j4;have U:((explore t).2.getD C [])[j]?=some l[j]:=(by grind);cases r:A'[l[j]]
             . have u:=r2.push c P U (by grind);have aq:=b1i (A:=A') (i:=l[j]) (by grind);have g:(A'.map B).set l[j] (.bool true)=(A'.set l[j] true).map B:=(by rw[L6]);have V:(a+1)*8≤140737488355328:=j4;have o:(A'.set l[j] true).length=A'.length:=k8;obtain⟨A2,ar⟩:=Q8 (A'.set l[j] true);rw[ar]at g o aq u;have aF:a<(j8 t).length:=by
                have:=u.cnt;simp at this;omega
               by_cases K:a=E'.length
               . obtain⟨E2,D⟩:=Q8 (E'++[l[j]]);have q:E'.map IN++[IN l[j]]=E2.map IN:=(by rw[←D];simp);have d:E'.length+1=E2.length:=(by rw[←D];simp);have L:E'.take a++[l[j]]=E2.take (a+1):=(by grind);rw[L]at u;have au:E2.length*8≤140737488355328:=j4;simp[hj,I,J,r,g,V,au,K,q,d];refine H (j+1,A2,E2,a+1) _ _ j4 ?_;simp[K,o,d]
                 grind
               . have av:a<E'.length:=j4;have hle:a≤E'.length:=j4;obtain⟨E2,D⟩:∃E2,E'.take a++l[j]::E'.drop (a+1)=E2:=⟨_,rfl⟩
                 have q:List.take a (E'.map IN)++IN l[j]::List.drop (a+1) (E'.map IN)=E2.map IN:=(by rw[←D];simp[a4h,a2X]);have d:E2.length=E'.length:=(by grind);have L:E'.take a++[l[j]]=E2.take (a+1):=(by grind);rw[L]at u;simp[hj,I,J,r,g,V,K,av,hle,q,d];refine H (j+1,A2,E2,a+1) _ _ j4 ?_;simp[o,d]
                 grind
             . have u:=r2.skip U (by grind);simp[hj,I,J,r];refine H (j+1,A',E',a) _ _ j4 ?_;simp
               grind
           . obtain rfl:j=l.length:=j4;simp;refine ap _ _ _ ?_;simp;refine ag (A',E',a,C) _ _ (by grind) ?_;simp
             grind
abbrev UB(b:UInt8):PV:=.int .u8 (b.toNat:Int)
@[simp] theorem d3k(l:By):List.map (B6∘UB) l=l.map UB:=O1 fun _ _=>rfl
@[simp] theorem a9y:∀l:By,a0n (l.map UB)=some l
 | []=>rfl
 |b::l=>by have h:=a9y l;simp only[a0s,a0n,h];simp[a6R]
def J8(t:k7)(p:List Nat):By:=p.flatMap fun k=>(t.rules.getD k default).print
def C5(t:k7)(p:List Nat):List Nat:=p.flatMap fun k=>(t.rules.getD k default).cells
theorem b7g(t:k7)(p q:List Nat):J8 t (p++q)=J8 t p++J8 t q:=by simp[J8]
theorem b0n(t:k7)(p q:List Nat):C5 t (p++q)=C5 t p++C5 t q:=by simp[C5]
theorem b8M{t:k7}{s s':State}{k:Nat}(h:step t s k=some s'):∃a:k<t.rules.length,t.rules.getD k default=t.rules[k]:=by have a:=a2B h;exact⟨a,by rw[B0,l9 a];rfl⟩
theorem b3o{t:k7}(a:s7 t):∀p:List Nat,(J8 t p).length≤4*p.length
 | []=>by simp[J8]
 |k::p=>by
  have c:=b3o a p;have:(t.rules.getD k default).print.length≤4:=by
   rw[B0];by_cases b:k<t.rules.length
   . rw[l9 b];exact(a.snd (C4 b)).p4
   . rw[a0i j4];exact E0 _
  simp only[J8,a2Z,Z9,S9]at*;omega
theorem b4r{t:k7}(a:s7 t):∀p:List Nat,(C5 t p).length≤4*p.length
 | []=>by simp[C5]
 |k::p=>by
  have c:=b4r a p;have:(t.rules.getD k default).cells.length≤4:=by
   rw[B0];by_cases b:k<t.rules.length
   . rw[l9 b];exact(a.snd (C4 b)).c4
   . rw[a0i j4];exact E0 _
  simp only[C5,a2Z,Z9,S9]at*;omega
abbrev TrP(text:By)(cells:List Nat)(at_:Nat)(s:State)(ok:Bool):PV:=.agg [St text,.uslc (cells.map UN),IN at_,IN s.mode,IN s.last,UN s.need,B ok]
theorem c4G{t:k7}{p:List Nat}{s s':State}(h:E5 t s p=some s')(i:Nat):∃a,E5 t s (p.take i)=some a∧E5 t a (p.drop i)=some s':=by rw[←a9G i p,a5N]at h;obtain⟨a,h1,b⟩:=X1.1 h;exact⟨a,h1,b⟩
def X58:u9:=
 ⟨45,[0,1,2,3,4,5,6,7,13,20,39],5,[(2,none)],sq [.reg [H4 1 0 0,oax 2],.reg [oq (.call 61 [] [(0,0),(0,0),(0,0)] false),odr 1 3 0 0 0 0 0,oc 3 1],sq [kj 4 0,.block 0 (.loopS [1,3,4] 5 (sq [sq [kr 4 3 1 8 0 2,B9 8 0],.block 1 (sq [kj 5 0,.block 2 (.loopS [1,3,4,5] 5 (sq [sq [.reg [oa 5,od 2 1,ob 1 1,E6 2,oas 9 0 3],B9 9 2],.block 3 (sq [.reg [occ 3 1 2,M9 3 2,M9 4 2,obo 3 1 2 2,ode 3 3 2,M9 5 2,oeq 62 0 4 5 0 0 0 0 0 0 0 0 2,⟨.mv (.l 6),none,none,[2]⟩,ocj 7 0 2,ocj 7 1 2,oam 6 2 0 0 0,og 3 10 8,oc 7 9],.reg [oa 7,om 0,oj 3 1,ocd 3 6 1,obb 63 2 3 0 0 1,obn 4 0 1,V1 10 1 5],.cond (.v 10) (.reg [oa 3,oo 3 6,odr 3 3 0 0 0 0 1,J3 4 3 24 1 0 2,oc 3 3]) kc]),kh 5 0 1 5 1]))]),kh 4 0 1 4 1]))],kf 3 2 0,ko]⟩
def X59:u9:=
 ⟨73,[0,1,2,3,4,5,6,7,8,9,10,17,29,33,47,68],6,[(2,none)],sq [.reg [H4 1 0 0,oax 2],.reg [oo 3 1,Y4 58 0 1 3,ofa 2 1,oc 3 1,oc 4 2],.G6 [(1,true)] (.G4 3 none 0 0 (sq [sq [kj 5 0,.block 0 (.loopS [1,3,4,5] 6 (sq [sq [kr 5 3 1 11 0 2,B9 11 0],.block 1 (.reg [M9 4 3,oo 3 1,oa 3,oa 5,ol 3 2 3,J7 3 4,oay 64 1 5 0 0,oq (.mkarr 3 1 [.bool false] [(0,.l 6)]),J3 4 1 1 1 0 7,oc 4 8]),kh 5 0 1 5 1]))],sq [kad 6,.block 2 (.loopS [1,3,4,6] 6 (sq [sq [.reg [odf 12 6],B9 12 2],.block 3 (sq [kk 6,kj 7 0,.block 4 (.loopS [1,3,4,6,7] 6 (sq [sq [kr 7 3 1 13 0 2,B9 13 4],.block 5 (sq [kj 8 0,.block 6 (.loopS [1,3,4,6,7,8] 6 (sq [sq [.reg [oa 8,od 2 1,ob 1 1,E6 2,oby 0 3,om 4,oj 4 5,oj 7 5,oau 1 6 7 5,oe 1 8 5,oct 9 5,V1 14 5 10],B9 14 6],.block 7 (sq [.reg [occ 3 1 5,M9 3 5,M9 7 5,obo 3 1 2 5,ode 3 3 5,M9 8 5,oeq 62 0 4 5 0 0 0 0 0 0 0 0 5,⟨.mv (.l 6),none,none,[5]⟩,ocj 7 0 5,ocj 7 1 5,oam 9 5 0 0 0,og 3 10 8,oc 10 9],.reg [oa 10,om 0,oj 4 1,oj 3 1,ocd 3 9 1,obb 63 3 4 0 0 1,oau 1 2 5 1,oe 1 6 1,V1 15 1 7],.cond (.v 15) (sq [.reg [oa 4,oa 7,ol 1 0 1,obm 1 2],kad 6]) kc]),kh 8 0 1 8 1]))]),kh 7 0 1 7 1]))])]))],kf 4 2 0,ko]))]⟩
def X60:u9:=
 ⟨87,[0,1,2,3,4,5,6,7,8,9,10,11,12,20,35,42,56,77],11,[(2,none)],sq [.reg [H4 1 0 0,oax 2],.reg [oo 3 1,Y4 58 0 1 3,ofa 2 1,ofa 3 1,oc 3 1,oc 4 2,oc 5 3],.G6 [(1,true)] (.G4 3 none 0 0 (sq [sq [kj 6 0,.block 0 (.loopS [1,3,4,5,6] 11 (sq [sq [kr 6 3 1 13 0 2,B9 13 0],.block 1 (sq [.reg [oa 4,oq (.mkarr 4 1 [.int .i64 0] [(0,oi (-1))]),J3 5 1 8 1 0 1,oc 4 2],.reg [M9 5 6,oo 3 1,oa 3,oa 6,ol 3 2 3,J7 3 4,oay 64 1 5 0 0,oq (.mkarr 6 1 [.bool false] [(0,.l 6)]),J3 7 1 1 1 0 7,oc 5 8]]),kh 6 0 1 6 1]))],sq [kad 7,.block 2 (.loopS [1,3,4,5,7] 11 (sq [sq [.reg [odf 14 7],B9 14 2],.block 3 (sq [kk 7,.reg [ofa 8 1,oa 5,J3 8 1 1 2 0 1,oc 8 2],sq [kj 9 0,.block 4 (.loopS [1,3,4,5,7,8,9] 11 (sq [sq [kr 9 3 1 15 0 2,B9 15 4],.block 5 (sq [kj 10 0,.block 6 (.loopS [1,3,4,5,7,8,9,10] 11 (sq [sq [.reg [oa 10,od 2 1,ob 1 1,E6 2,oby 0 3,om 4,oj 8 5,oj 9 5,oau 1 6 7 5,oe 1 8 5,oct 9 5,V1 16 5 10],B9 16 6],.block 7 (sq [.reg [occ 3 1 10,M9 3 10,M9 9 10,obo 3 1 2 10,ode 3 3 10,M9 10 10,oeq 62 0 4 5 0 0 0 0 0 0 0 0 10,⟨.mv (.l 6),none,none,[10]⟩,ocj 7 0 10,ocj 7 1 10,oam 11 10 0 0 0,og 3 10 8,oc 12 9],.reg [oa 12,om 0,oj 5 1,oj 3 1,ocd 3 11 1,obb 63 3 4 0 0 1,oau 1 2 5 1,oe 1 6 1,V1 17 1 7],.cond (.v 17) (sq [.reg [oa 8,oa 9,ol 1 0 1,obm 1 2],.reg [oa 4,oa 9,oa 10,ol 1 0 1,og 1 3 2],kad 7]) kc]),kh 10 0 1 10 1]))]),kh 9 0 1 9 1]))],kf 8 5 0])]))],kf 4 2 0,ko]))]⟩
def X61:u9:=
 ⟨2,[0],1,[(0,some (true,3))],sq [.reg [oam 0 0 0 0 0],.reg [oq (.build [.int .i64 0,.int .i64 0,.int .u8 0] [(2,1,.c (.int .u8 63))]),L0 3 0 0],ko]⟩
def X62:u9:=
 ⟨87,[0,1,2,3,4,6,7,8,17,36,49,54,72],4,[(5,some (true,3)),(6,none)],sq [.reg [H4 3 0 0,H4 4 1 1,oam 5 2 0 0 0,oh 6],sq [.reg [oa 2,ocp 0 0,om 1,N2 2 2,ox 2 3 2,os 1 4 2,obg 5 2,obr 3 6 2,W9 8 2 7],.cond (.v 8) (kas 0 0 0 3 5 0 6) kc],.reg [od 2 3,ob 1 0,oa 2,ol 6 1 2,J7 6 3,oat 7 3 0 0 0 0,og 6 5 4],sq [.reg [od 4 7,ob 1 0,od 0 4,ob 1 2,oek 1 3,om 4,ox 2 7 5,os 1 6 5,ox 1 4 5,os 1 8 5,odz 100 7 9 0 0 5,oel 10 5,W9 9 5 11],.cond (.v 9) (kas 0 0 0 3 5 0 6) kc],sq [.reg [od 0 7,ob 1 0,obp 1,obz 2 0,om 3,ou 2 4 4,oe 1 5 4,ou 3 7 4,oe 1 7 4,⟨.bin .and false (.l 6) (.l 8),none,some (.l 4,true),[]⟩,oci 9 0 4,V1 10 4 10],.cond (.v 10) (kas 0 0 0 3 5 0 6) kc],sq [.reg [od 0 7,ob 1 0,obp 1,odb 11 2 0],.cond (.v 11) (sq [.reg [od 5 7,ob 1 0,od 1 4,ob 1 2,od 2 4,ob 1 4,od 3 7,ob 1 6,oq (.bin .and false (.l 5) (.l 7)),oem 0 0 0 0 1 1 1 1 3 2 1 8,L0 3 5 9,oba 6],ko]) kc],sq [.reg [od 2 4,ob 1 0,od 0 7,ob 1 2,oea 3 0,ofc 101 4 0 0,oq (.call 100 [.l 1,.l 5] [(0,0)] true),obd 12 6],.cond (.v 12) (kas 0 0 0 3 5 0 6) kc],.reg [od 5 7,ob 1 0,od 0 7,ob 1 2,od 0 7,ob 1 4,obp 5,obk 6 1,ocg 3 7,ofc 101 8 0 0,od 3 7,ob 1 10,oem 0 0 0 0 1 1 1 1 9 2 1 11,L0 3 5 12,oba 6],ko]⟩
def X63:u9:=
 ⟨19,[0,1,3,4,5,9,17],1,[(3,none)],sq [.reg [H4 2 0 1,ov 3 0],sq [kj 4 0,.block 0 (.loopS [0,2,4] 1 (sq [sq [kr 4 0 1 5 0 2,B9 5 0],.block 1 (sq [.reg [oa 0,oa 4,ol 3 0 1,J7 3 2,oo 3 2,ow 6 (.eqS false [1,1,1] (.l 3) (.l 4))],.cond (.v 6) (sq [kf 4 3 0,ko]) kc]),kh 4 0 1 4 1]))],.reg [odv 3],ko]⟩
def X64:u9:=
 ⟨27,[0,1,2,3,4],2,[(4,none)],sq [.reg [H4 2 0 0,H4 3 1 1,oh 4],.reg [od 0 3,ob 1 0,ofh 1 0,om 2,ou 0 3 3,oe 1 4 3,ou 0 2 3,oe 1 6 3,⟨.bin .lss false (.l 5) (.l 7),none,some (.l 3,true),[]⟩,ot 3 8,om 9,ou 1 2 10,oe 1 11 10,ou 0 3 10,oe 1 13 10,obb 100 12 14 0 0 10,ot 10 15,om 16,ou 2 3 17,oe 1 18 17,⟨.call 100 [.l 19,oi 0] [(0,0)] false,none,some (.l 17,true),[]⟩,ot 17 20,oc 4 21],ko]⟩
def X25:u9:=
 ⟨130,[0,1,2,4,5,6,7,8,9,10,11,12,13,14,15,16,17,18,28,43,51,69,76,111],15,[(3,none),(4,none)],sq [.reg [H4 2 0 0,oax 3,oh 4],.reg [oo 3 2,Y4 58 0 1 3,occ 3 2 1,Y4 59 2 2 1,⟨.load true 3 (.v 2),none,none,[1,2]⟩,Y4 60 4 3 1,oc 5 1,oc 6 3,oc 7 5],.G6 [(1,true),(2,true),(3,true)] (.G4 5 none 0 0 (.G4 6 none 0 0 (.G4 7 none 0 0 (sq [sq [.reg [oa 6,oce 1 0 0,ob 1 1,obd 18 2],.cond (.v 18) (sq [.reg [ofa 4 1,oc 3 0,oh 4],ko]) kc],.reg [ofa 5 1,oq (.call 61 [] [(0,0),(0,0),(0,0)] false),oam 9 6 0 0 0,oc 8 0,og 3 2 1,ov 10 0],sq [kj 11 0,.block 0 (.loopS [1,2,5,6,7,8,9,10,11] 15 (sq [sq [.reg [oa 11,oa 1,E6 1,oby 0 2,om 3,oj 11 4,obn 5 10 4,ot 4 6,om 7,oj 10 8,⟨.bin .leq false (.l 9) (oi 10),none,some (.l 8,true),[]⟩,V1 19 8 10],B9 19 0],.block 1 (sq [.reg [ofa 7 1,oc 12 0],sq [kj 13 0,.block 2 (.loopS [1,2,5,6,7,8,9,10,11,12,13] 15 (sq [sq [.reg [oa 13,od 2 2,ob 1 1,E6 2,oas 20 0 3],B9 20 2],.block 3 (sq [.reg [oo 3 2,oo 3 9,oa 13,oei 62 0 1 2 0 0 0 0 0 0 0 0,om 3,oy 4 0,oy 4 1,oam 14 8 0 0 0,og 3 7 5,oc 15 6],.reg [oa 15,om 0,oj 6 1,oj 5 1,ocd 3 14 1,obb 63 3 4 0 0 1,oau 1 2 5 1,oe 1 6 1,V1 21 1 7],.cond (.v 21) (.reg [oa 12,oa 13,ocm 9 1 0 0 1,J3 10 1 8 1 0 2,oc 12 3]) kc]),kh 13 0 1 13 1]))],sq [.reg [oa 12,E6 0,odb 22 1 0],kau 22 0],.reg [oa 12,oa 1,oa 11,ol 1 1 2,ob 1 3,oq (.conv .i64 (.l 4)),oa 12,E6 6,oq (.bin .rem false (.l 5) (.l 7)),ol 1 0 8,ob 1 9,oc 16 10],.reg [oa 8,oa 16,ocm 11 1 0 0 1,J3 12 1 8 1 0 2,oc 8 3],.reg [oa 10,od 2 2,ob 1 1,oa 16,ol 6 2 3,ok 0 4,ob 1 5,obp 6,obq 0 7,oc 10 8],.reg [oo 3 2,oo 3 9,oa 16,oei 62 0 1 2 0 0 0 0 0 0 0 0,om 3,oy 4 0,oy 4 1,L0 3 9 5]]),kh 11 0 1 11 1]))],.block 4 (.loopS [2,5,7,8,9] 15 (sq [sq [.reg [oo 3 2,oo 3 9,oay 64 0 1 0 0,obd 23 2],B9 23 4],.block 5 (sq [.reg [oa 7,oa 5,oo 3 9,oay 63 1 2 0 0,ol 1 0 3,ob 1 4,oc 17 5],.reg [oa 8,oa 17,ocm 13 1 0 0 1,J3 14 1 8 1 0 2,oc 8 3],.reg [oo 3 2,oo 3 9,oa 17,oei 62 0 1 2 0 0 0 0 0 0 0 0,om 3,oy 4 0,oy 4 1,L0 3 9 5]])])),.reg [oa 8,oc 3 0,oba 4],ko]))))]⟩
def X26:u9:=
 ⟨69,[0,1,2,4,5,6,7,8,14,29],5,[(3,some (true,7))],sq [.reg [H4 2 0 0,ow 3 (.alloc 1 [.str ⟨#[]⟩,.nils,.int .i64 0,.int .i64 0,.int .i64 0,.int .u8 0,.bool false])],.reg [oq (.call 61 [] [(0,0),(0,0),(0,0)] false),oq (.build [.str ⟨#[]⟩,.nils,.int .i64 0,.int .i64 0,.int .i64 0,.int .u8 0,.bool false] [(3,3,.l 0)]),ow 4 (.alloc 2 [.str ⟨#[]⟩,.nils,.int .i64 0,.int .i64 0,.int .i64 0,.int .u8 0,.bool false]),og 7 2 1],.G4 4 (some 1) 4 1 (sq [sq [kj 5 0,.block 0 (.loopS [1,2,3,4,5] 5 (sq [sq [kr 5 1 1 8 0 2,B9 8 0],.block 1 (sq [.reg [occ 3 2 3,obh 3 4 3,ode 3 1 3,M9 1 3,M9 5 3,obo 1 3 4 3,Q7 1 5 3,oeq 62 0 2 6 0 0 0 0 0 0 0 0 3,⟨.mv (.l 7),none,none,[3]⟩,ocj 8 0 3,ocj 8 1 3,oam 6 3 0 0 0,og 3 11 9,oc 7 10],sq [kaf 7 9 0,.cond (.v 9) (sq [.reg [oo 7 4,L0 7 3 0],ko]) kc],.reg [od 0 4,ob 1 0,od 2 2,ob 1 2,oa 1,oa 5,ol 1 4 5,ob 1 6,ol 6 3 7,ok 0 8,ob 1 9,obq 1 10,od 0 4,og 1 12 11],.reg [od 1 4,ob 1 0,od 2 2,ob 1 2,oa 1,oa 5,ol 1 4 5,ob 1 6,ol 6 3 7,ok 1 8,ob 1 9,J3 4 1 1 0 1 10,od 1 4,og 1 12 11],.reg [oo 3 6,od 3 4,og 3 1 0],.reg [od 2 4,ob 1 0,oaf 1 1,od 2 4,og 1 3 2]]),kh 5 0 1 5 1]))],.reg [oo 3 2,od 3 4,J7 3 1,oay 64 0 2 0 0,od 6 4,og 1 4 3],.reg [oo 7 4,L0 7 3 0],ko])]⟩
def X6:u9:=
 ⟨19,[0,1,2,4,5,6,7],3,[(3,none),(4,none)],sq [.reg [H4 2 0 0,obt 3,oh 4],.reg [oo 3 2,oa 1,odp 25 0 1 1 1 0 0,om 2,oy 3 0,oy 3 1,oc 5 4,oc 6 5],.reg [oo 3 2,oa 5,oq (.call 26 [.l 0,.l 1] [(0,0),(2,1),(0,0),(0,0),(0,0),(0,0),(0,0)] false),oq (.field false 0 1 (.l 2)),oa 6,oc 3 3,oc 4 4],ko]⟩
def a7H:u9:=
 ⟨18,[0,1,4],0,[(2,none)],sq [kk 2,.reg [oa 1,ofh 0 0,om 1,oj 1 2,obn 3 8 2,ot 2 4,om 5,oj 0 6,oj 1 6,⟨.bin .shr false (.l 7) (.l 8),none,some (.l 6,true),[]⟩,oeh 9 1 6,oci 10 1 6,ot 6 11,oc 2 12],ko]⟩
theorem c58:D3 58 X58:=D7
theorem c59:D3 59 X59:=D7
theorem c60:D3 60 X60:=D7
theorem c61:D3 61 X61:=D7
theorem c62:D3 62 X62:=D7
theorem c63:D3 63 X63:=D7
theorem c64:D3 64 X64:=D7
theorem c25:D3 25 X25:=D7
theorem c26:D3 26 X26:=D7
theorem c6:D3 6 X6:=D7
theorem c100:D3 100 a7H:=D7
def X18:u9:=
 ⟨121,[0,2,3,4,5,6,7,8,9,16,17,35,50,64,72,90,105],42,[(1,some (true,3))],sq [.reg [oca 1 0 0 0],.reg [oq (.call 53 [] [(1,6)] false),ofe 0 0 0 1 0 1 1 0,ofe 0 0 0 1 0 1 1 1,ofe 0 0 0 1 1 1 1 1,ofe 0 0 0 1 1 1 1 0,oef 3 2 0 0,oef 4 3 0 0,oef 5 4 0 0,oef 6 5 0 0,oc 2 0,ofg 2 5 1,ofg 2 6 2,ofg 2 7 3,ofg 2 8 4],sq [.reg [oa 0,ow 9 (.bin .rem false (.l 0) (.c (.int .u8 8)))],.block 0 (sq [.reg [och 9 1,oc 10 0],.cond (.v 10) (sq [.reg [⟨.mv (.v 2),none,none,[6,7,8,9,10]⟩,oet 2 4,oq (.call 54 [.c (.int .u8 60),oi 3,.l 1] [(0,0),(6,1),(0,0),(0,0),(0,0),(0,0)] false),ocz 1 0 0 1 6,oeu 2 5 6,oq (.call 55 [.c (.str ⟨#[49]⟩),.l 3,.l 4] [(0,0),(7,1),(0,0),(0,0),(0,0),(0,0)] false),odc 1 0 0 3 6 7,odx 2 5 6 7,oq (.call 55 [.c (.str ⟨#[50]⟩),.l 6,.l 7] [(0,0),(8,1),(0,0),(0,0),(0,0),(0,0)] false),⟨.lit 1 [.int .u8 0] [(0,.c (.int .u8 0))],none,none,[6,7,8]⟩,⟨.loadA 2 (.v 6),none,none,[6,7,8]⟩,oq (.call 55 [.c (.str ⟨#[32]⟩),.l 9,.l 10] [(0,0),(9,1),(0,0),(0,0),(0,0),(0,0)] false),oev 10 6 0 0 0 0 0 0 0 0 0 0 0 0 0 0 0 0 0 2 1 5 2 8 3 11,J3 11 6 64 1 0 12,oc 2 13],.G6 [(1,true)] (.reg [oa 2,odn 0 0 0 1 2 1 1 3 2 1 0,L0 3 1 1]),ko]) (sq [.reg [och 9 2,oc 11 0],.cond (.v 11) (sq [.reg [⟨.mv (.v 2),none,none,[12,13,14,15]⟩,oet 2 4,oq (.call 54 [.c (.int .u8 32),oi 2,.l 1] [(0,0),(12,1),(0,0),(0,0),(0,0),(0,0)] false),ocz 1 0 0 1 12,oeu 2 6 12,oq (.call 55 [.c (.str ⟨#[65]⟩),.l 3,.l 4] [(0,0),(13,1),(0,0),(0,0),(0,0),(0,0)] false),odc 1 0 0 3 12 13,odx 2 6 12 13,oq (.call 55 [.c (.str ⟨#[66]⟩),.l 6,.l 7] [(0,0),(14,1),(0,0),(0,0),(0,0),(0,0)] false),oar 15 6 0 0 0 0 0 0 0 0 0 0 0 0 0 2 1 5 2 8,J3 16 6 64 1 0 9,oc 2 10],.G6 [(1,true)] (.reg [oa 2,odn 0 0 0 1 2 1 1 1 2 1 0,L0 3 1 1]),ko]) (sq [.reg [och 9 3,oc 12 0],.cond (.v 12) (.reg [⟨.mv (.v 2),none,none,[17,18,19,20]⟩,oq (.lit 1 [.int .u8 0] [(0,.c (.int .u8 7))]),oet 2 3,oq (.call 55 [.c (.str ⟨#[97,98]⟩),.l 1,.l 2] [(0,0),(17,1),(0,0),(0,0),(0,0),(0,0)] false),ocz 1 0 0 15 17,oeu 2 3 17,oq (.call 55 [.c (.str ⟨#[97,98,99]⟩),.l 4,.l 5] [(0,0),(18,1),(0,0),(0,0),(0,0),(0,0)] false),⟨.lit 1 [.int .u8 0,.int .u8 0] [(0,.c (.int .u8 4)),(1,.c (.int .u8 4))],none,none,[17,18]⟩,odx 2 3 17 18,oq (.call 55 [.c (.str ⟨#[99,97]⟩),.l 7,.l 8] [(0,0),(19,1),(0,0),(0,0),(0,0),(0,0)] false),oar 20 6 0 0 0 0 0 0 0 0 0 0 0 0 0 3 1 6 2 9,J3 21 6 64 1 0 10,oc 2 11]) (sq [.reg [och 9 4,oc 13 0],.cond (.v 13) (.reg [oa 2,oq (.lit 1 [.int .u8 0,.int .u8 0] [(0,.c (.int .u8 1)),(1,.c (.int .u8 3))]),oet 2 3,oq (.call 55 [.c (.str ⟨#[45]⟩),.l 1,.l 2] [(0,0),(22,1),(0,0),(0,0),(0,0),(0,0)] false),ocr 23 6 0 0 0 0 0 3,J3 24 6 64 1 0 4,oc 2 5]) (sq [.reg [och 9 5,oc 14 0],.cond (.v 14) (sq [.reg [odc 1 0 0 44 27 28,odx 2 3 27 28,⟨.call 55 [.c (.str ⟨#[98]⟩),.l 0,.l 1] [(0,0),(25,1),(0,0),(0,0),(0,0),(0,0)] false,none,none,[27,28]⟩,⟨.lit 1 [.int .u8 0] [(0,.c (.int .u8 44))],none,none,[25,27,28]⟩,⟨.loadA 2 (.v 3),none,none,[25,27,28]⟩,⟨.call 55 [.c (.str ⟨#[99,97,98]⟩),.l 3,.l 4] [(0,0),(26,1),(0,0),(0,0),(0,0),(0,0)] false,none,none,[27,28]⟩,⟨.alloc 27 [.str ⟨#[]⟩,.nils,.int .u8 0,.int .u8 0,.int .i64 0,.int .i64 0],some 7,none,[25,26,28]⟩,⟨.alloc 28 [.str ⟨#[]⟩,.nils,.int .u8 0,.int .u8 0,.int .i64 0,.int .i64 0],some 8,none,[25,26,27]⟩,og 6 6 2,og 6 7 5],.reg [od 2 7,oq (.store 1 (.l 0) (.c (.int .u8 17))),od 2 8,oq (.store 1 (.l 2) (.c (.int .u8 2)))],.reg [obv 2 29 30,occ 6 7 29,occ 6 8 29,oq (.lit 1 [.int .u8 0] [(0,.c (.int .u8 36))]),oet 2 3,oq (.call 55 [.c (.str ⟨#[45]⟩),.l 3,.l 4] [(0,0),(29,1),(0,0),(0,0),(0,0),(0,0)] false),oar 30 6 0 0 0 0 0 0 0 0 0 0 0 0 0 1 1 2 2 5,J3 31 6 64 1 0 6,oc 2 7]]) (sq [.reg [och 9 6,oc 15 0],.cond (.v 15) (sq [.reg [⟨.mv (.v 2),none,none,[32,33,34,35]⟩,oet 2 4,oq (.call 54 [.c (.int .u8 40),oi 1,.l 1] [(0,0),(32,1),(0,0),(0,0),(0,0),(0,0)] false),ocz 1 0 0 1 32,oeu 2 6 32,oq (.call 55 [.c (.str ⟨#[225]⟩),.l 3,.l 4] [(0,0),(33,1),(0,0),(0,0),(0,0),(0,0)] false),odc 1 0 0 3 32 33,odx 2 6 32 33,oq (.call 55 [.c (.str ⟨#[226]⟩),.l 6,.l 7] [(0,0),(34,1),(0,0),(0,0),(0,0),(0,0)] false),oar 35 6 0 0 0 0 0 0 0 0 0 0 0 0 0 2 1 5 2 8,J3 36 6 64 1 0 9,oc 2 10],.G6 [(1,true)] (.reg [oa 2,odn 0 0 0 1 2 1 1 1 2 1 0,L0 3 1 1]),ko]) (sq [.reg [och 9 7,oc 16 0],.cond (.v 16) (.reg [⟨.mv (.v 2),none,none,[37,38,39,40]⟩,oq (.lit 1 [.int .u8 0,.int .u8 0] [(0,.c (.int .u8 1)),(1,.c (.int .u8 5))]),oet 2 3,oq (.call 55 [.c (.str ⟨#[45]⟩),.l 1,.l 2] [(0,0),(37,1),(0,0),(0,0),(0,0),(0,0)] false),⟨.lit 1 [.int .u8 0,.int .u8 0] [(0,.c (.int .u8 5)),(1,.c (.int .u8 5))],none,none,[37]⟩,oeu 2 3 37,oq (.call 55 [.c (.str ⟨#[49]⟩),.l 4,.l 5] [(0,0),(38,1),(0,0),(0,0),(0,0),(0,0)] false),⟨.lit 1 [.int .u8 0,.int .u8 0] [(0,.c (.int .u8 5)),(1,.c (.int .u8 9))],none,none,[37,38]⟩,odx 2 3 37 38,oq (.call 55 [.c (.str ⟨#[50]⟩),.l 7,.l 8] [(0,0),(39,1),(0,0),(0,0),(0,0),(0,0)] false),oar 40 6 0 0 0 0 0 0 0 0 0 0 0 0 0 3 1 6 2 9,J3 41 6 64 1 0 10,oc 2 11]) kc])])])])])])])],.G6 [(1,true)] (.reg [oa 2,odn 0 0 0 1 1 1 1 1 2 1 0,L0 3 1 1]),ko]⟩
def X5:u9:=
 ⟨77,[0,1,2,3,4,5,6,17,25,43,61,73],10,[(2,some (true,3))],sq [.reg [H4 1 0 0,oca 2 1 0 0],.reg [od 0 1,ob 1 0,oq (.call 18 [.l 1] [(0,0),(0,0),(2,6)] false),oca 3 3 0 0,og 3 3 2],.reg [od 2 3,ob 1 0,oc 4 1],.reg [ofa 4 6,od 2 3,og 1 1 0],sq [kj 5 0,.block 0 (.loopS [1,2,3,4,5] 10 (sq [sq [kr 5 4 1 7 0 2,B9 7 0],.block 1 (sq [.reg [od 1 1,ob 1 0,oa 5,oq (.bin .shr false (.l 1) (.l 2)),obu 3 1,ocs 8 4 0],.cond (.v 8) (.reg [obh 2 3 5,Q7 1 0 5,oa 4,oa 5,ol 6 2 3,J7 6 4,ocr 5 6 0 0 0 0 0 5,J3 6 6 64 1 1 6,od 2 3,og 1 8 7]) kc]),kh 5 0 1 5 1]))],sq [kj 6 0,.block 2 (.loopS [1,2,3,4,6] 10 (sq [sq [.reg [oa 6,od 2 1,ob 1 1,E6 2,oby 0 3,om 4,oj 6 5,obn 6 2 5,V1 9 5 7],B9 9 2],.block 3 (sq [.reg [⟨.fieldAddr 2 (.v 3),none,none,[7,8]⟩,odg 1 0 7 8,od 2 1,ob 1 2,oa 6,ol 6 3 4,J7 6 5,od 0 3,ob 1 7,oq (.call 23 [.l 6,.l 8] [(0,0),(7,1),(0,0),(0,0),(0,0),(0,0)] false),ocr 8 6 0 0 0 0 0 9,J3 9 6 64 1 1 10,od 2 3,og 1 12 11],.reg [oo 3 3,Y4 24 0 0 0,obd 10 1],.cond (.v 10) (.reg [od 2 3,ob 1 0,od 2 3,ob 1 2,E6 3,obk 4 1,ocy 6 1 5,od 2 3,og 1 7 6]) kc]),kh 6 0 1 6 1]))],sq [.reg [od 2 3,ob 1 0,E6 1,odb 11 2 0],.cond (.v 11) (.reg [oa 4,od 2 3,og 1 1 0]) kc],.reg [oo 3 3,L0 3 2 0],ko]⟩
def X23:u9:=
 ⟨101,[0,1,2,4,5,6,7,8,9,10,11,46,83],8,[(3,some (true,6))],sq [.reg [H4 2 0 0,oat 3 1 0 0 0 0],.reg [oq (.mkarr 2 1 [.int .u8 0,.int .u8 0,.int .u8 0,.int .u8 0,.int .u8 0,.int .u8 0,.int .u8 0,.int .u8 0] [(0,.c (.int .u8 63)),(1,.c (.int .u8 63)),(2,.c (.int .u8 2)),(3,.c (.int .u8 8)),(4,.c (.int .u8 17)),(5,.c (.int .u8 62)),(6,.c (.int .u8 4)),(7,.c (.int .u8 1))]),ow 4 (.mv (.c (.str ⟨#[97,98,99,65,66,49,50,45,46]⟩))),oc 5 0],.reg [M9 5 3,obh 2 2 3,Q7 1 1 3,⟨.bin .rem false (.l 2) (.c (.int .u8 8)),none,none,[3]⟩,obo 1 0 3 3,Q7 1 4 3,M9 5 3,obh 3 2 3,Q7 1 7 3,⟨.bin .rem false (.l 8) (.c (.int .u8 8)),none,none,[3]⟩,obo 1 6 9 3,Q7 1 10 3,obh 4 2 3,⟨.indexAddrA 2 1 (.l 12) (oi 0),none,none,[3]⟩,Q7 1 13 3,⟨.conv .i64 (.l 14),none,none,[3]⟩,M9 1 3,⟨.bin .rem false (.l 15) (.l 16),none,none,[3]⟩,obh 4 2 3,⟨.indexAddrA 2 1 (.l 18) (oi 1),none,none,[3]⟩,Q7 1 19 3,⟨.conv .i64 (.l 20),none,none,[3]⟩,M9 1 3,⟨.bin .rem false (.l 21) (.l 22),none,none,[3]⟩,⟨.build [.str ⟨#[]⟩,.nils,.int .u8 0,.int .u8 0,.int .i64 0,.int .i64 0] [(2,1,.l 5),(3,1,.l 11),(4,1,.l 17),(5,1,.l 23)],none,none,[3]⟩,oat 6 3 0 0 0 0,og 6 25 24],sq [kj 7 0,.block 0 (.loopS [2,3,4,6,7] 8 (sq [sq [.reg [oa 7,od 0 2,ob 1 1,E6 2,oby 0 3,om 4,oj 7 5,obn 6 3 5,V1 11 5 7],B9 11 0],.block 1 (sq [.reg [od 0 2,ob 1 0,oa 7,ol 1 1 2,ob 1 3,oq (.bin .rem false (.l 4) (.c (.int .u8 9))),oq (.conv .i64 (.l 5)),oc 8 6],.reg [od 0 6,ob 1 0,oa 4,oa 8,oa 8,oaf 4 1,oq (.slice true 0 (.l 2) (some (.l 3)) (some (.l 5)) none),obq 1 6,od 0 6,og 1 8 7]]),kh 7 0 1 7 1]))],.reg [oq (.mkarr 4 1 [.int .u8 0,.int .u8 0,.int .u8 0,.int .u8 0,.int .u8 0,.int .u8 0,.int .u8 0,.int .u8 0] [(0,.c (.int .u8 1)),(1,.c (.int .u8 3)),(2,.c (.int .u8 9)),(3,.c (.int .u8 5)),(4,.c (.int .u8 7)),(5,.c (.int .u8 32)),(6,.c (.int .u8 44)),(7,.c (.int .u8 60))]),oc 9 0],.reg [oa 9,od 2 2,ob 1 1,oq (.bin .quo false (.l 2) (.c (.int .u8 8))),oq (.bin .rem false (.l 3) (.c (.int .u8 8))),ol 1 0 4,ob 1 5,ocw 5 1 0 0 6,od 1 6,og 1 8 7],sq [kj 10 0,.block 2 (.loopS [2,3,6,9,10] 8 (sq [sq [.reg [oa 10,od 1 2,ob 1 1,E6 2,oby 0 3,om 4,oj 10 5,obn 6 2 5,V1 12 5 7],B9 12 2],.block 3 (.reg [obh 1 6 6,Q7 1 0 6,oa 9,od 1 2,ob 1 3,oa 10,ol 1 4 5,ob 1 6,oq (.bin .rem false (.l 7) (.c (.int .u8 8))),ol 1 2 8,ob 1 9,ocw 6 1 0 0 10,J3 7 1 1 1 1 11,od 1 6,og 1 13 12]),kh 10 0 1 10 1]))],.reg [oo 6 6,L0 6 3 0],ko]⟩
def X24:u9:=
 ⟨12,[0,1,2,4],1,[(2,none)],sq [.reg [H4 1 0 0,oh 2],.reg [oo 3 1,oco 57 0 0 0 0 0,om 1,oy 2 0,oy 2 1,om 3,oc 3 4],.reg [oa 3,obz 0 0,oc 2 1],ko]⟩
def X57:u9:=
 ⟨74,[0,1,2,3,4,5,39,44,55,59,72],1,[(2,none),(3,none)],sq [.reg [H4 1 0 0,ov 2 0,ov 3 0],sq [.reg [od 0 1,ob 1 0,ocp 1 1,om 2,ox 0 1 3,os 1 4 3,obl 5 8 3,U9 3 6,om 7,ox 1 1 8,os 1 9 8,ocv 10 0 8,U9 8 11,om 12,ox 1 1 13,os 1 14 13,⟨.conv .i64 (.l 15),none,some (.l 13,false),[]⟩,ox 0 1 13,os 1 17 13,⟨.bin .shl false (oi 1) (.l 18),none,some (.l 13,false),[]⟩,obr 16 19 13,U9 13 20,om 21,ox 2 1 22,os 1 23 22,obg 24 22,obs 25 1 22,U9 22 26,om 27,ox 2 1 28,os 1 29 28,obg 30 28,obl 31 64 28,W9 6 28 32],kay 6 2 3 1],sq [kj 4 0,.block 0 (.loopS [1,4] 1 (sq [sq [.reg [oa 4,od 2 1,ob 1 1,E6 2,oas 7 0 3],B9 7 0],.block 1 (sq [sq [.reg [od 2 1,ob 1 0,oa 4,ol 6 1 2,J7 6 3,od 0 1,ob 1 5,oay 99 4 6 0 0,obd 8 7],.cond (.v 8) (kbb 4 2 0 3 20) kc],kj 5 0,.block 2 (.loopS [1,4,5] 1 (sq [sq [.reg [oa 5,oa 4,oas 9 0 1],B9 9 2],.block 3 (sq [.reg [od 2 1,ob 1 0,oa 5,ol 6 1 2,J7 6 3,od 2 1,ob 1 5,oa 4,ol 6 6 7,J7 6 8,ow 10 (.call 37 [.l 4,.l 9] [(0,0)] false)],.cond (.v 10) (kbb 4 2 0 3 20) kc]),kh 5 0 1 5 1]))]),kh 4 0 1 4 1]))],.reg [ov 2 0,ov 3 0],ko]⟩
def U6:u9:=
 ⟨125,[0,1,2,4,5,6,7,8,30,70,75,90,98,109],1,[(3,none)],sq [.reg [H4 2 0 0,oh 3],sq [.reg [od 0 2,ob 1 0,Y4 125 1 0 0,odu 2,om 3,ox 0 2 4,os 1 5 4,odh 6 4,obl 7 4 4,U9 4 8,om 9,ox 1 2 10,os 1 11 10,obg 12 10,obs 13 1 10,U9 10 14,om 15,ox 1 2 16,os 1 17 16,obg 18 16,obl 19 4 16,W9 8 16 20],.cond (.v 8) (kaq 3) kc],sq [.reg [od 2 2,ob 1 0,oeb 1 1,om 2,ox 2 2 3,os 1 4 3,ocf 5 63 3,U9 3 6,om 7,ox 3 2 8,os 1 9 8,⟨.bin .lss false (.l 10) (.c (.int .u8 1)),none,some (.l 8,false),[]⟩,U9 8 11,om 12,ox 3 2 13,os 1 14 13,ocf 15 63 13,U9 13 16,om 17,ox 4 2 18,os 1 19 18,obs 20 0 18,U9 18 21,om 22,ox 4 2 23,os 1 24 23,N2 1 23,obr 25 26 23,U9 23 27,om 28,ox 5 2 29,os 1 30 29,obs 31 0 29,U9 29 32,om 33,ox 5 2 34,os 1 35 34,N2 1 34,obr 36 37 34,W9 9 34 38],.cond (.v 9) (kaq 3) kc],.reg [oh 4,oh 5],sq [kj 6 0,.block 0 (.loopS [2,4,5,6] 1 (sq [sq [.reg [oa 6,od 0 2,ob 1 1,obp 2,oas 10 0 3],B9 10 0],.block 1 (.reg [oa 4,om 0,ox 0 2 1,os 1 2 1,N2 6 1,⟨.indexS (.l 3) (.l 4),none,some (.l 1,false),[]⟩,⟨.call 126 [.l 5] [(0,0)] false,none,some (.l 1,false),[]⟩,U9 1 6,oc 4 7]),kh 6 0 1 6 1]))],sq [kj 7 0,.block 2 (.loopS [2,4,5,7] 1 (sq [sq [.reg [oa 7,od 1 2,ob 1 1,E6 2,oas 11 0 3],B9 11 2],.block 3 (sq [sq [.reg [od 1 2,ob 1 0,oa 7,ol 1 1 2,ob 1 3,ow 12 (.bin .geq false (.l 4) (.c (.int .u8 63)))],.cond (.v 12) (kaq 3) kc],.reg [oa 5,om 0,ox 1 2 1,os 1 2 1,N2 7 1,⟨.indexAddr 1 (.l 3) (.l 4),none,some (.l 1,false),[]⟩,os 1 5 1,ocv 6 0 1,U9 1 7,oc 5 8]]),kh 7 0 1 7 1]))],sq [kaf 4 13 0,.cond (.v 13) (sq [.reg [oa 5,odu 0,oc 3 1],ko]) kc],.reg [od 0 2,ob 1 0,obp 1,obz 2 1,om 3,ou 1 2 4,oe 1 5 4,oeg 6 4,obx 7 1 4,ot 4 8,om 9,oj 5 10,ot 10 11,oc 3 12],ko]⟩
def X37:u9:=
 ⟨45,[0,1,2,3,4],2,[(4,none)],sq [.reg [H4 2 0 0,H4 3 1 1,oh 4],.reg [od 0 2,ob 1 0,od 0 3,ob 1 2,ocq 1 3,om 4,ou 1 2 5,oe 1 6 5,ou 1 3 5,oe 1 8 5,obb 19 7 9 0 0 5,ot 5 10,om 11,ou 2 2 12,oe 1 13 12,ou 2 3 12,oe 1 15 12,obc 14 16 12,ot 12 17,om 18,ou 3 2 19,oe 1 20 19,ou 3 3 19,oe 1 22 19,obc 21 23 19,ot 19 24,om 25,ou 4 2 26,oe 1 27 26,ou 4 3 26,oe 1 29 26,obc 28 30 26,ot 26 31,om 32,ou 5 2 33,oe 1 34 33,ou 5 3 33,oe 1 36 33,obc 35 37 33,ot 33 38,oc 4 39],ko]⟩
def X19:u9:=
 ⟨26,[0,1,4,5,10,14,25],0,[(2,none)],sq [kk 2,sq [.reg [oa 0,E6 0,oa 1,E6 2,ocb 4 1 3],.cond (.v 4) (kaq 2) kc],sq [kj 3 0,.block 0 (.loopS [0,1,3] 0 (sq [sq [kr 3 0 1 5 0 2,B9 5 0],.block 1 (sq [.reg [oa 0,oa 3,ol 1 0 1,ob 1 2,oa 1,oa 3,ol 1 4 5,ob 1 6,ocb 6 3 7],.cond (.v 6) (kaq 2) kc]),kh 3 0 1 3 1]))],kad 2,ko]⟩
def a9S:u9:=
 ⟨12,[0,2,4],0,[(1,none)],sq [kk 1,.reg [oa 0,oco 149 0 0 0 0 0,om 1,oy 2 0,oy 2 1,om 3,oc 2 4],.reg [oa 2,obz 0 0,oc 1 1],ko]⟩
def a8w:u9:=
 ⟨19,[0,2,3,4,8,15],0,[(1,none),(2,none)],sq [.reg [ov 1 0,ov 2 0],sq [kj 3 0,.block 0 (.loopS [0,3] 0 (sq [sq [.reg [oa 3,oa 0,obp 1,oas 4 0 2],B9 4 0],.block 1 (sq [.reg [oa 0,oa 3,ocg 0 1,Y4 163 2 0 0,obd 5 3],.cond (.v 5) (kbb 3 1 0 2 60) kc]),kh 3 0 1 3 1]))],.reg [oa 0,obp 0,oc 1 1,ov 2 0],ko]⟩
def a8D:u9:=
 ⟨11,[0,2],0,[(1,none)],sq [kk 1,.reg [oa 0,obu 0 127,oec 1 32,om 2,oj 0 3,oeh 4 127 3,obi 5 126 3,ot 3 6,oc 1 7],ko]⟩
def b1e:u9:=
 ⟨6,[0,2],0,[(1,none)],sq [kk 1,.reg [oa 0,obu 0 127,oq (.bin .eql false (.l 1) (.c (.int .u8 32))),oc 1 2],ko]⟩
def X53:u9:=
 ⟨16,[0,1],6,[(0,none)],sq [ku 0,.reg [oq (.build [.int .i64 0,.int .i64 0] []),oef 1 0 0 0,ofg 2 1 0],.reg [oq (.lit 1 [.int .u8 0] [(0,.c (.int .u8 1))]),oet 2 1,oq (.call 55 [.c (.str ⟨#[97]⟩),.l 0,.l 1] [(0,0),(1,1),(0,0),(0,0),(0,0),(0,0)] false),ocz 1 0 0 3 1,oeu 2 1 1,oq (.call 55 [.c (.str ⟨#[98]⟩),.l 3,.l 4] [(0,0),(2,1),(0,0),(0,0),(0,0),(0,0)] false),odc 1 0 0 9 1 2,odx 2 1 1 2,oq (.call 55 [.c (.str ⟨#[99]⟩),.l 6,.l 7] [(0,0),(3,1),(0,0),(0,0),(0,0),(0,0)] false),⟨.lit 1 [.int .u8 0] [(0,.c (.int .u8 0))],none,none,[1,2,3]⟩,⟨.loadA 2 (.v 1),none,none,[1,2,3]⟩,oq (.call 55 [.c (.str ⟨#[32]⟩),.l 9,.l 10] [(0,0),(4,1),(0,0),(0,0),(0,0),(0,0)] false),oev 5 6 0 0 0 0 0 0 0 0 0 0 0 0 0 0 0 0 0 2 1 5 2 8 3 11,oc 0 12],ko]⟩
def X54:u9:=
 ⟨16,[0,1,2,5,6,7],4,[(4,some (true,6))],sq [.reg [ow 3 (.boxA 0 (.v 2)),oat 4 1 0 0 0 0],.reg [oa 0,oq (.lit 1 [.int .u8 0] [(0,.l 0)]),oet 2 3,oq (.call 55 [.c (.str ⟨#[]⟩),.l 1,.l 2] [(0,0),(2,1),(0,0),(0,0),(0,0),(0,0)] false),oat 5 3 0 0 0 0,og 6 4 3],.reg [oa 1,oq (.bin .shl false (.c (.int .u8 1)) (.l 0)),od 3 5,og 1 2 1],.reg [oo 6 5,L0 6 4 0],ko]⟩
def X55:u9:=
 ⟨14,[0,1,2,5,6],2,[(4,some (true,6))],sq [.reg [ow 3 (.boxA 0 (.v 2)),oat 4 1 0 0 0 0],.reg [oa 0,oa 1,oq (.indexAddrA 2 1 (.v 3) (oi 0)),ob 1 2,oq (.indexAddrA 2 1 (.v 3) (oi 1)),ob 1 4,oq (.build [.str ⟨#[]⟩,.nils,.int .u8 0,.int .u8 0,.int .i64 0,.int .i64 0] [(0,1,.l 0),(1,1,.l 1),(2,1,.c (.int .u8 63)),(3,1,.c (.int .u8 63)),(4,1,.l 3),(5,1,.l 5)]),L0 6 4 6],ko]⟩
def X16:u9:=
 ⟨2,[0],2,[(0,some (true,3))],sq [.reg [oca 0 0 0 0],.reg [oq (.call 18 [.c (.int .u8 0)] [(0,0),(0,0),(1,6)] false),L0 3 0 0],ko]⟩
def a4E:u9:=
 ⟨26,[0,2,3,11,17,23,25],0,[(1,none)],sq [kj 1 0,.reg [oa 0,obu 0 127,oc 2 1],sq [.reg [oa 2,oec 0 97,om 1,oj 2 2,obi 3 122 2,V1 3 2 4],kba 3 1 1],sq [.reg [oa 2,oec 0 65,om 1,oj 2 2,obi 3 90 2,V1 4 2 4],kba 4 1 2],sq [.reg [oa 2,oec 0 48,om 1,oj 2 2,obi 3 57 2,V1 5 2 4],kba 5 1 3],sq [.reg [oa 2,ocs 6 0 32],kba 6 1 4],kj 1 5,ko]⟩
theorem c18:D3 18 X18:=D7
theorem c5:D3 5 X5:=D7
theorem c23:D3 23 X23:=D7
theorem c24:D3 24 X24:=D7
theorem c57:D3 57 X57:=D7
theorem c99:D3 99 U6:=D7
theorem c37:D3 37 X37:=D7
theorem Q9:D3 19 X19:=D7
theorem c125:D3 125 a9S:=D7
theorem c149:D3 149 a8w:=D7
theorem c163:D3 163 a8D:=D7
theorem c126:D3 126 b1e:=D7
theorem c53:D3 53 X53:=D7
theorem c54:D3 54 X54:=D7
theorem c55:D3 55 X55:=D7
theorem c16:D3 16 X16:=D7
theorem c101:D3 101 a4E:=D7
theorem b5b:F0 61 [0,0,0] [] (SP start):=by refine E1 c61 1 (by simp[X61]) fun Q a b=>?_;simp[X61];refine a _ _ ?_;simp[X61,start]
theorem b7u(b:UInt8):F0 101 [0] [U b.toNat] (IN (a1u b)):=by
 refine E1 c101 0 (by simp[a4E]) fun Q e m=>?_;have h:=a8f b;have a:a1u b=(if 97≤O7 b∧O7 b≤122 then 1 else if 65≤O7 b∧O7 b≤90 then 2 else if 48≤O7 b∧O7 b≤57 then 3 else if O7 b=32 then 4 else 5):=rfl;generalize O7 b=c at h a;by_cases a1:97≤c∧c≤122
 . rw[if_pos a1]at a;simp[a4E,h,a1];refine e _ _ ?_;simp[a4E,a]
 rw[if_neg a1]at a;by_cases a3:65≤c∧c≤90
 . rw[if_pos a3]at a;have d:¬97≤c:=j4;simp[a4E,h,a3,d];refine e _ _ ?_;simp[a4E,a]
 rw[if_neg a3]at a;by_cases a5:48≤c∧c≤57
 . rw[if_pos a5]at a;have d:¬97≤c:=j4;have f:¬65≤c:=j4;simp[a4E,h,a5,d,f];refine e _ _ ?_;simp[a4E,a]
 rw[if_neg a5]at a;by_cases d:97≤c<;>by_cases f:65≤c<;>by_cases i:48≤c<;>by_cases g:c=32<;>(try (exfalso;omega))<;>
  (have j:97≤c→¬c≤122:=j4
   have k:65≤c→¬c≤90:=j4;have l:48≤c→¬c≤57:=j4;simp only[g,if_true,if_false]at a;simp[a4E,h,d,f,i,g,j,k,l];refine e _ _ ?_;simp[a4E,a])
theorem b0y(m k:Nat)(hm:m<256)(c:k≤1000000):F0 100 [0] [UN m,IN k] (B (bit m k)):=by
 refine E1 c100 0 (by simp[a7H]) fun Q b d=>?_;by_cases a:k<8
 . have h:=b6C hm a;simp[a7H,a,IntKind.bits];simp at h;refine b _ _ ?_;simp[a7H,bit,a,h]
 . simp[a7H,a];refine b _ _ ?_;simp[a7H,bit,a]
theorem b0F(t:k7)(s:State)(b:OkT t)(hs:OkS s):F0 64 [0] [TP t,SP s] (B (B8 t s)):=by
 refine E1 c64 2 (by simp[X64]) fun Q a d=>?_;have h1:=b0y t.accept s.mode b.accept hs.mode;have c:=b0y s.need 0 hs.need j4;by_cases hm:s.mode<t.modes
 . simp[X64,hm];refine l8 h1 ?_;cases hb:bit t.accept s.mode
   . simp;refine a _ _ ?_;simp[X64,B8,hb]
   . simp;refine l8 c ?_;simp;refine a _ _ ?_;simp[X64,B8,hb,hm]
 . simp[X64,hm];refine a _ _ ?_;simp[X64,B8,hm]
theorem a6D(t:k7)(s:State)(k:Nat)(i:OkT t)(hs:OkS s)(v:k≤1000000):F0 62 [0,0,0,0] [TP t,SP s,IN k] (a1C (step t s k)):=by
 refine E1 c62 4 (by simp[X62]) fun Q j w=>?_;have hlen:=i.len;by_cases d:k<t.rules.length
 . have g:¬((t.rules.length:Int)≤k):=j4;have b:step t s k=a5K t.rules[k] s:=(by unfold step;rw[l9 d];rfl);have hr:=i.a1n _ (C4 d);simp[X62,d,g];generalize t.rules[k]=r at hr b;unfold a5K at b;have c:∀(o:Option State) vs h,step t s k=o→fin X62.results [0,0,0,0] (a1C o) vs h→Q .ret vs h:=fun o vs h x y=>j _ _ (by grind);by_cases e:r.src=s.mode
   . simp[e];refine l8 (b0y r.left s.last hr.left (by have:=hs.last;omega)) ?_;cases hb:bit r.left s.last
     . rw[if_pos (.inr hb)]at b;simp;refine c _ _ _ b ?_;simp[X62,D5]
     . rw[if_neg (by simp[e,hb])]at b;by_cases hp:r.print=[]
       . rw[if_pos hp]at b;simp[hp,b2m hs.need hr.right];by_cases f:s.need&&&r.right=0
         . rw[if_pos f]at b;simp[f];refine c _ _ _ b ?_;simp[X62,D5]
         . rw[if_neg f]at b;have z:¬((s.need&&&r.right:Nat):Int)=0:=j4;simp[f];refine c _ _ _ b ?_;simp[X62,b2m hs.need hr.right]
       . rw[if_neg hp]at b;have h0:0<r.print.length:=a2E.2 hp;have n:=b7u r.print[0];have p:=b7u r.print[r.print.length-1];have q:r.print.headD 0=r.print[0]:=(by obtain⟨a,l,h⟩:=a9L hp;simp[h]);have el:r.print.getLastD 0=r.print[r.print.length-1]:=(by grind);have u:r.print.length-1<r.print.length:=j4;have hlen:=hr.print;have hw:IntKind.i64.wrap ((r.print.length:Int)-1)=((r.print.length-1:Nat):Int):=(by rw[wrap_ok j4 j4];omega);rw[q,el]at b;simp[hp,h0];refine l8 n ?_;simp;refine l8 (b0y s.need _ hs.need (by have:=b1q r.print[0];omega)) ?_;cases m:bit s.need (a1u r.print[0])
         . rw[if_pos m]at b;simp;refine c _ _ _ b ?_;simp[X62,D5]
         . rw[if_neg (by simp[m])]at b;simp[hw,u];refine l8 p ?_;simp;refine c _ _ _ b ?_;simp[X62]
   . rw[if_pos (.inl e)]at b;simp[e];refine c _ _ _ b ?_;simp[X62,D5]
 . have g:((t.rules.length:Int)≤k):=j4;have b:step t s k=none:=(by unfold step;rw[a0i j4];rfl);simp[X62,d,g];refine j _ _ ?_;simp[X62,D5,b]
theorem a9i(L:List State)(s:State)(m:L.length≤1100000000):F0 63 [0] [.slc (F9 L),SP s] (I (match L.idxOf? s with|some n=>(n:Int)|none=> -1)):=by
 refine E1 c63 2 (by simp[X63]) fun Q b o=>?_;simp[X63];refine I6 (fun(k:Nat) vs h=>k≤L.length∧(∀j,(hj:j<L.length)→j<k→L[j]≠s)∧vs=[.slc (F9 L),.uu,.ptr 1 1 0,.uu,IN k,.uu,.uu]∧h=[dd,(1,.var [IN s.mode,IN s.last,UN s.need])]) (fun k=>L.length-k) 0 ?_ ?_
 . simp
 . rintro k vs h ⟨g1,g2,rfl,rfl⟩ Q' e f g;by_cases c:k<L.length
   . have hw:=wk1 k j4;have heq:(L[k]=s)=(L[k].mode=s.mode∧L[k].last=s.last∧L[k].need=s.need):=by
      generalize L[k]=a;cases a;cases s;simp
     by_cases d:L[k]=s
     . have hi:L.idxOf? s=some k:=by
        rw[List.idxOf?,a1W]
        grind
       simp[c,d];refine g _ _ ?_;simp;refine b _ _ ?_;simp[X63,hi]
     . have i:(decide (L[k].mode=s.mode)&&(decide (L[k].last=s.last)&&decide (L[k].need=s.need)))=false:=by
        rw[heq]at d
        grind
       simp[c,hw,i];refine e (k+1) _ _ j4 ?_;simp
       grind
   . obtain rfl:k=L.length:=j4;have hi:L.idxOf? s=none:=by
      rw[List.idxOf?,b2c];intro x l;obtain⟨j,hj,rfl⟩:=a1I l;simpa using g2 j hj hj
     simp;refine f _ _ _ ?_;simp;refine b _ _ ?_;simp[X63,hi]
theorem b2o(t:k7)(d:s7 t):F0 58 [3] [TP t] (.uslc (F9 (j8 t))):=by
 refine E1 c58 9 (by simp[X58]) fun Q r G=>?_;have H:=d.l64;simp[X58];refine l8 b5b ?_;simp;refine I6 (fun(p:Nat×Ex) vs h=>a1e t (3073-p.1) p.1 p.2=explore t∧Inv (p.1*64) p.2∧p.1≤p.2.1.length∧
  vs=[.uu,.ptr 5 1 0,.uu,.own 6 1 p.2.1.length 3 0 p.2.1.length,IN p.1,.uu,.uu,.uu,.uu,.uu,.uu]∧
  h=[dd,dd,dd,dd,dd,(1,.var [IN t.modes,UN t.accept,.slc (t.rules.map RP)]),(1,.arr 3 0 false (F9 p.2.1)),dd,dd]) (fun p=>3073-p.1) (0,([start],[[]])) ?_ ?_
 . simp;exact⟨rfl,a8c⟩
 . rintro⟨k,L,F⟩ vs h ⟨g1,g2,g3,rfl,rfl⟩ Q' s u I;dsimp only at g1 g2 g3;have v:=g2.le;dsimp only at v;by_cases e:k<L.length
   . have hw:=wk1 k j4;simp[e];refine I6 (fun(j:Nat) vs h=>j≤t.rules.length∧
      vs=[.uu,.ptr 5 1 0,.uu,.own 6 1 (Y6 t k (L,F) j).1.length 3 0 (Y6 t k (L,F) j).1.length,IN k,IN j,.uu,.uu,.uu,.uu,.uu]∧
      h=[dd,dd,dd,dd,dd,(1,.var [IN t.modes,UN t.accept,.slc (t.rules.map RP)]),(1,.arr 3 0 false (F9 (Y6 t k (L,F) j).1)),dd,dd]) (fun j=>t.rules.length-j) 0 ?_ ?_
     . simp[Y6]
     . rintro j vs h ⟨J,rfl,rfl⟩ Q2 i w K;obtain⟨b,i2⟩:=a5T d g2 e j;have a:=b1j t k (L,F) j;by_cases hj:j<t.rules.length
       . have m:=wk1 j j4;generalize Y6 t k (L,F) j=A at b i2 a;obtain⟨L',F'⟩:=A;have f:k<L'.length:=(by grind);have x:=b.le;dsimp only at x;have c:=a6D t L'[k] j d.ok (b.val _ (C4 f)).ok j4;have y:L'.getD k D5=L'[k]:=(by grind);unfold a5l at a;simp only[y]at a;cases hs:step t L'[k] j with
         |none=>
          simp only[hs]at a;simp only[a1C,hs]at c;simp[hj,f];refine l8 c ?_;simp[m];refine i (j+1) _ _ j4 ?_;simp[a];omega
         |some nx=>
          have g:=a9i L' nx j4;simp only[hs]at a;simp only[a1C,hs]at c;cases q:L'.idxOf? nx with
          |some n=>
           simp only[q]at a g;have z:¬(n:Int)<0:=j4;simp[hj,f];refine l8 c ?_;simp;refine l8 g ?_;simp[m,z];refine i (j+1) _ _ j4 ?_;simp[a];omega
          |none=>
           simp only[q]at a g;obtain⟨L2,o⟩:=Q8 (L'++[nx]);have B:F9 L'++[.agg [IN nx.mode,IN nx.last,UN nx.need]]=F9 L2:=(by rw[←o];simp);have C:L'.length+1=L2.length:=(by rw[←o];simp);have D:L2.length*24≤140737488355328:=j4;rw[o]at a;simp[hj,f];refine l8 c ?_;simp;refine l8 g ?_;simp[m,B,C,D];refine i (j+1) _ _ j4 ?_;simp[a];omega
       . obtain rfl:j=t.rules.length:=j4;simp;refine w _ _ _ ?_;simp[hw];refine s (k+1,Y6 t k (L,F) t.rules.length) _ _ j4 ?_;obtain⟨b,i2⟩:=a5T d g2 e t.rules.length;dsimp only at i2;have hex:a1e t (3073-k) k (L,F)=a1e t (3072-k) (k+1) (Y6 t k (L,F) t.rules.length):=by
          rw[show 3073-k=(3072-k)+1 by omega];simp only[a1e];rw[if_pos e]
         rw[hex]at g1;simp;refine⟨g1,⟨b.nodup,b.val,b.len,fun l E=>by have:=b.short l E;omega,b.pos⟩,j4⟩
   . obtain rfl:k=L.length:=j4;simp;refine u _ _ _ ?_;simp;refine r _ _ ?_;have hex:explore t=(L,F):=by
      rw[←g1,show 3073-L.length=(3072-L.length)+1 by omega];simp only[a1e];rw[if_neg j4]
     simp[X58,j8,hex]
structure AR(t:k7)(A:List Bool):Prop where
 len:A.length=(j8 t).length
 live:∀i:Nat,A[i]?=some true→∃s,(j8 t)[i]?=some s∧Live t s
 acc:∀(i:Nat) s,(j8 t)[i]?=some s→B8 t s=true→A[i]?=some true
theorem a0S{t:k7}(c:s7 t){s:State}(hs:s∈j8 t):∃n,(j8 t).idxOf? s=some n∧(j8 t)[n]?=some s:=by
 cases a:(j8 t).idxOf? s with
 |none=>
  rw[List.idxOf?,b2c]at a;have:=a s hs;simp at this
 |some n=>
  obtain⟨h1,b,_⟩:=a1W.1 a;exact⟨n,rfl,by rw[l9 h1];congr 1;simpa using b⟩
theorem c0a{L:List State}{s:State}{n:Nat}(h:L.idxOf? s=some n):∃a:n<L.length,L[n]=s:=by
 obtain⟨h1,b,_⟩:=a1W.1 h
 grind
def a3r(t:k7)(A:List Bool)(i:Nat)(j:Nat):Prop:=∀(hi:i<(j8 t).length),A[i]?=some false→∀k s' n,k<j→step t (j8 t)[i] k=some s'→(j8 t).idxOf? s'=some n→A[n]?=some false
theorem AR.set{t:k7}{A:List Bool}(h:AR t A){i k n:Nat}{s':State}(hi:i<(j8 t).length)(hs:step t (j8 t)[i] k=some s')(b:(j8 t).idxOf? s'=some n)(c:A[n]?=some true):AR t (A.set i true):=by
 have m:i<A.length:=by rw[h.len];exact hi
 refine⟨by simp[h.len],fun j hj=>?_,fun j s h1 d=>?_⟩
 . by_cases e:i=j
   . subst e;obtain⟨s,a,f⟩:=h.live n c;obtain⟨g,l⟩:=c0a b;rw[l9 g,l]at a;cases a;exact⟨_,l9 hi,c0L hs f⟩
   . rw[F4 e]at hj;exact h.live j hj
 . by_cases e:i=j
   . grind
   . rw[F4 e];exact h.acc j s h1 d
theorem AR.alive{t:k7}(d:s7 t){A:List Bool}(h:AR t A)(f:∀i,a3r t A i t.rules.length):A=L8 t:=by
 classical
 have key:∀(p:List Nat) (i:Nat) (s s':State),(j8 t)[i]?=some s→E5 t s p=some s'→B8 t s'=true→A[i]?=some true:=fun p=>by
  induction p with
  |nil=>intro i s s' h1 c a;cases c;exact h.acc i s h1 a
  |cons m p k=>
   intro i s s' h1 c a;simp only[E5]at c;obtain⟨s1,b,l⟩:=X1.1 c;obtain⟨hi,rfl⟩:=C0.1 h1;obtain⟨n,g,o⟩:=a0S d (a0g d (C4 hi) b);have j:i<A.length:=(by rw[h.len];exact hi);rw[l9 j];cases e:A[i]
   . have q:=f i hi (by grind) m s1 n (a2B b) b g
     grind
   . rfl
 refine a0z (by rw[h.len];simp[L8]) fun i h1 c=>?_;simp only[L8,a0V];have hi:i<(j8 t).length:=by rw[←h.len];exact h1
 cases e:A[i]
 . symm;rw[decide_eq_false_iff_not];rintro⟨p,s',a,b⟩;have:=key p i _ s' (l9 hi) a b;rw[l9 h1,e]at this;cases this
 . symm;rw[decide_eq_true_iff];obtain⟨s,a,b⟩:=h.live i (by grind);rw[l9 hi]at a;cases a;exact b
theorem AR.init(t:k7):AR t ((j8 t).map (B8 t)):=
 ⟨k8,fun i hi=>by rw[H6]at hi;obtain⟨s,h1,a⟩:=C9.1 hi;exact⟨s,h1,b5M a⟩,fun i s h1 a=>by rw[H6,h1];simp[a]⟩
theorem c3r(t:k7)(b:s7 t):F0 59 [1] [TP t] (.uslc ((L8 t).map B)):=by
 refine E1 c59 10 (by simp[X59]) fun Q L ag=>?_;have M:=b2o t b;have hle:=a1F b;have ah:=b.l64;have G:=fun s hs=>(a3g b (s:=s) hs).ok;simp[X59];refine l8 M ?_;simp;refine I6 (fun(x:Nat×List Bool) vs h=>x.1≤(j8 t).length∧x.2=((j8 t).take x.1).map (B8 t)∧
  vs=[.uu,.ptr 6 1 0,.uu,.slc (F9 (j8 t)),.own 7 1 x.2.length 1 0 x.2.length,IN x.1,.uu,.uu,.uu,.uu,.uu,.uu,.uu,.uu,.uu,.uu]∧
  h=[dd,dd,dd,dd,dd,dd,(1,.var [IN t.modes,UN t.accept,.slc (t.rules.map RP)]),(1,.arr 1 0 false (x.2.map B)),dd,dd]) (fun x=>(j8 t).length-x.1) (0,[]) ?_ ?_
 . simp
 . rintro⟨i,A⟩ vs h ⟨g1,g2,rfl,rfl⟩ Q' N O ai;dsimp only at g1 g2;by_cases hi:i<(j8 t).length
   . have hw:=wk1 i j4;have P:=b0F t (j8 t)[i] b.ok (G _ (C4 hi));obtain⟨A2,w⟩:=Q8 (A++[B8 t (j8 t)[i]]);have q:A.map B++[B (B8 t (j8 t)[i])]=A2.map B:=(by rw[←w];simp);have r:A.length+1=A2.length:=(by rw[←w];simp);have R:A2=((j8 t).take (i+1)).map (B8 t):=(by rw[←w,g2,J5,l9 hi,S0];rfl);have aj:A2.length=i+1:=(by grind);have S:A2.length≤140737488355328:=j4;simp[hi];refine l8 P ?_;simp[hw,hi,q,r,S];refine N (i+1,A2) _ _ j4 ?_;simp;exact⟨j4,by simpa using R⟩
   . obtain rfl:i=(j8 t).length:=j4;rw[K8]at g2;have H:=AR.init t;rw[←g2]at H;simp;refine O _ _ _ ?_;simp;refine I6 (fun(x:List Bool×Bool) vs h=>AR t x.1∧(x.2=false→∀i,a3r t x.1 i t.rules.length)∧
      vs=[.uu,.ptr 6 1 0,.uu,.slc (F9 (j8 t)),.own 7 1 x.1.length 1 0 x.1.length,.uu,B x.2,.uu,.uu,.uu,.uu,.uu,.uu,.uu,.uu,.uu]∧
      h=[dd,dd,dd,dd,dd,dd,(1,.var [IN t.modes,UN t.accept,.slc (t.rules.map RP)]),(1,.arr 1 0 false (x.1.map B)),dd,dd]) (fun x=>2*x.1.count false+x.2.toNat) (A,true) ?_ ?_
     . simp;exact H
     . rintro⟨A1,g⟩ vs h ⟨r1,r2,rfl,rfl⟩ Q2 T U ak;dsimp only at r1 r2;cases g
       . have d:=r1.alive b (r2 rfl);simp;refine U _ _ _ ?_;simp;refine L _ _ ?_;simp[X59,d]
       . simp;refine I6 (fun(x:Nat×List Bool×Bool) vs h=>x.1≤(j8 t).length∧AR t x.2.1∧(x.2.2=false→x.2.1=A1∧∀i,i<x.1→a3r t A1 i t.rules.length)∧(x.2.2=true→x.2.1.count false<A1.count false)∧
          vs=[.uu,.ptr 6 1 0,.uu,.slc (F9 (j8 t)),.own 7 1 x.2.1.length 1 0 x.2.1.length,.uu,B x.2.2,IN x.1,.uu,.uu,.uu,.uu,.uu,.uu,.uu,.uu]∧
          h=[dd,dd,dd,dd,dd,dd,(1,.var [IN t.modes,UN t.accept,.slc (t.rules.map RP)]),(1,.arr 1 0 false (x.2.1.map B)),dd,dd]) (fun x=>(j8 t).length-x.1) (0,A1,false) ?_ ?_
         . simp;exact r1
         . rintro⟨i,A2,g⟩ vs h ⟨V,u,v,I,rfl,rfl⟩ Q3 W X al;dsimp only at V u v I;have am:=u.len;by_cases hi:i<(j8 t).length
           . have hw:=wk1 i j4;have an:i<A2.length:=j4;simp[hi];refine I6 (fun(x:Nat×List Bool×Bool) vs h=>x.1≤t.rules.length∧AR t x.2.1∧(x.2.2=false→x.2.1=A1∧(∀l,l<i→a3r t A1 l t.rules.length)∧a3r t A1 i x.1)∧(x.2.2=true→x.2.1.count false<A1.count false)∧
              vs=[.uu,.ptr 6 1 0,.uu,.slc (F9 (j8 t)),.own 7 1 x.2.1.length 1 0 x.2.1.length,.uu,B x.2.2,IN i,IN x.1,.uu,.uu,.uu,.uu,.uu,.uu,.uu]∧
              h=[dd,dd,dd,dd,dd,dd,(1,.var [IN t.modes,UN t.accept,.slc (t.rules.map RP)]),(1,.arr 1 0 false (x.2.1.map B)),dd,dd]) (fun x=>t.rules.length-x.1) (0,A2,g) ?_ ?_
             . simp;refine⟨u,fun e=>⟨(v e).1,(v e).2,fun _ _ k s' n f=>absurd f j4⟩,I⟩
             . rintro⟨k,A3,g3⟩ vs h ⟨Y,j,a,p4,rfl,rfl⟩ Q4 y Z ao;dsimp only at Y j a p4;have ap:=j.len;have m:i<A3.length:=j4;have o:=a6D t (j8 t)[i] k b.ok (G _ (C4 hi)) j4;have aa:(g3=false→a3r t A1 i t.rules.length)→Q4 (.exit 6) [.uu,.ptr 6 1 0,.uu,.slc (F9 (j8 t)),.own 7 1 A3.length 1 0 A3.length,.uu,B g3,IN i,IN k,.uu,.uu,.uu,.uu,.uu,B false,.uu] [dd,dd,dd,dd,dd,dd,(1,.var [IN t.modes,UN t.accept,.slc (t.rules.map RP)]),(1,.arr 1 0 false (A3.map B)),dd,dd]:=fun aq=>by
                refine Z _ _ _ ?_;simp[hw];refine W (i+1,A3,g3) _ _ j4 ?_;simp;refine⟨j4,j,fun e=>⟨(a e).1,fun l ar=>?_⟩,p4⟩;by_cases c:l<i
                . exact(a e).2.1 l c
                . grind
               by_cases f:k<t.rules.length
               . have z:=wk1 k j4;cases d:A3[i]
                 . cases hs:step t (j8 t)[i] k with
                   |none=>
                    simp only[a1C,hs]at o;simp[f,m,d,hi];refine l8 o ?_;simp[z];refine y (k+1,A3,g3) _ _ j4 ?_;simp;refine⟨j4,j,fun e=>⟨(a e).1,(a e).2.1,fun h1 c p s' n ab C D=>?_⟩,p4⟩;by_cases E:p<k
                    . exact(a e).2.2 h1 c p s' n E C D
                    . grind
                   |some s'=>
                    obtain⟨n,J,au⟩:=a0S b (a0g b (C4 hi) hs);have F:=a9i (j8 t) s' j4;rw[J]at F;have K:n<A3.length:=(by grind);simp only[a1C,hs]at o;cases hb:A3[n]
                    . simp[f,m,d,hi];refine l8 o ?_;simp;refine l8 F ?_;simp[K,hb,z];refine y (k+1,A3,g3) _ _ j4 ?_;simp;refine⟨j4,j,fun e=>⟨(a e).1,(a e).2.1,fun h1 c p s2 ac ab C D=>?_⟩,p4⟩;by_cases E:p<k
                      . exact(a e).2.2 h1 c p s2 ac E C D
                      . grind
                    . have ad:=j.set hi hs J (by grind);have ae:=b1i (A:=A3) (i:=i) (by grind);have q:(A3.map B).set i (.bool true)=(A3.set i true).map B:=(by rw[L6]);have r:(A3.set i true).length=A3.length:=k8;obtain⟨A4,af⟩:=Q8 (A3.set i true);rw[af]at q r ad ae;simp[f,m,d,hi];refine l8 o ?_;simp;refine l8 F ?_;simp[K,hb,z,m,q];refine y (k+1,A4,true) _ _ j4 ?_;simp[r]
                      grind
                 . simp[f,m,d];refine aa fun e=>?_;obtain⟨h1,_,_⟩:=a e;intro _ av
                   grind
               . obtain rfl:k=t.rules.length:=j4;simp
                 grind
           . obtain rfl:i=(j8 t).length:=j4;simp;refine X _ _ _ ?_;simp;refine T (A2,g) _ _ ?_ ?_
             . dsimp only;cases g
               all_goals grind
             . simp;refine⟨u,fun e i=>?_⟩;obtain⟨h1,c⟩:=v e;rw[h1];by_cases hi:i<(j8 t).length
               . exact c i hi
               . exact fun h=>absurd h hi
end Go.Proofs.YtmhbdebagfhimaaGreatDoor.T
