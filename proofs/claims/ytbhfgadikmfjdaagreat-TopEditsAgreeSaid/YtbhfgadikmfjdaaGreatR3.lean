/-
  The plain machine, that it is sound, and walks: part 3 (joined and shortened by a program of the prover's).
-/
import Derived.Test.YtbhfgadikmfjdaaGreatR2
import Derived.RangeFuncRecord
import Derived.WalkKit
import Derived.ProofKit
import Derived.OpenShut
import Derived.ChangeOld
import Derived.Below
import Derived.Carry
import Derived.Deep.Slices
import Derived.Test.YtbhfgadikmfjdaaGreatProg
import Derived.KernelRfl
set_option linter.unusedSimpArgs false
set_option linter.unusedVariables false
set_option linter.unusedSectionVars false
namespace Go.Proofs.YtbhfgadikmfjdaaGreat.Am
open Go.RowKit
theorem Y7.mono{m a:Nat}{w w':World}(h:Y7 m w w')(hm:a≤m):Y7 a w w':=⟨h.os,h.tape,h.output,h.size,h.cells,fun b hb=>h.low b i9⟩
def KD(w w':World):Prop:=∀k:Nat,w.heap[k]?=some (.deferred (some []))→w'.heap[k]?=some (.deferred (some []))
theorem KD.refl(w:World):KD w w:=fun _ h=>h
theorem KD.trans{a b c:World}(h:KD a b)(k:KD b c):KD a c:=fun i x=>k i (h i x)
theorem KD.bl{B:Nat}{w w':World}(b:Bl B w w'):KD w w':=fun k h=>b.same k _ h rfl
theorem KD.put{l:Nat}{w:World}{r:Loop}{o:Obj}(h:w.heap[l]?=some (.loop r)):KD w (w.putObj l o):=fun k a=>(b4K fun e=>by subst e;rw[h]at a;cases a).trans a
theorem a0u.kd{m:Nat}{a:List Deferred}{w w':World}(h:a0u m a w)(k:KD w w'):a0u m a w':=by obtain⟨Ds,h1,d,b⟩:=h;exact⟨Ds,h1,d,fun D c=>⟨(b D c).1,k D (b D c).2⟩⟩
section
variable{P:Program}{B:Nat}{Z0:Nat→Prop}{vs:List Nat}{N:Nat}{G:Gh}{h:l7}{w:World}
theorem b5T(k:vs.Nodup):∀(ps:List Tmp) (b:List Value) (args vars:List PV) (a:Act),args.length=ps.length→b.length=args.length→(∀(i:Nat) c,args[i]?=some c→∃u,b[i]?=some u∧j8 G h w D u c)→
 (∀t∈ps,t<a.tmps.size)→X0 G h w vs vars a→
 X0 G h w vs (a6B vars (ps.map fun t=>vs.idxOf? t) args) {a with tmps:=(ps.zip b).foldl (fun t x=>t.setIfInBounds x.1 x.2) a.tmps}∧((ps.zip b).foldl (fun t x=>t.setIfInBounds x.1 x.2) a.tmps).size=a.tmps.size
 | [],b,args,vars,a,h1,d,e,f,g=>by
  have:args=[]:=List.eq_nil_of_length_eq_zero h1;subst this;exact⟨g,rfl⟩
 |p::ps,[],args,vars,a,h1,d,e,f,g=>by simp at h1 d;omega
 |p::ps,v::b,[],vars,a,h1,d,e,f,g=>by simp at h1
 |p::ps,v::b,c::args,vars,a,h1,d,e,f,g=>by obtain⟨u,g1,g2⟩:=e 0 c rfl;simp at g1;subst g1;have hp:=X0.put (Ext.refl (G:=G) (h:=h) (w:=w)) k g (dst:=some p) (v:=v) (p:=c) (fun t j=>by cases j;exact f _ a3v) g2;have:=b5T k ps b args (K0 vars (vs.idxOf? p) c) (a.put (some p) v) (by simpa using h1) (by simpa using d) (fun i c l=>by simpa using e (i+1) c (by simpa using l)) (fun t j=>by rw[a8B];exact f t (a5e _ j)) hp;rw[a8B]at this;exact this
def stc:Option Q7→LoopState×Option Code
 |none=>(.ready,none)
 |some .ret=>(.done,some .ret)
 |some (.exit id)=>(.done,some (.exit id))
 |some .normal=>(.done,some .skip)
theorem c0u(p:Option Q7):(stc p).2.isNone=p.isNone∧(if(stc p).2.isNone then LoopState.ready else LoopState.done)=(stc p).1∧(stc p).1≠ .busy:=by
 rcases p with _|e
 . exact⟨rfl,rfl,by simp[stc]⟩
 . cases e<;>exact⟨rfl,rfl,by simp[stc]⟩
theorem c9i{f:FuncId}{b args:Array Value}(a:a1U P f=true):(invoke (.fn (.func f) b) args).run P w=.ok (.enter f (args++b)) w:=by
 unfold a1U at a;split at a
 . rename_i fn d;simp only[G4,a6M]at a;obtain⟨h1,c⟩:=a;have g:¬fn.body=none:=fun e=>(by rw[e]at c;cases c);have h:¬fn.name= "runtime.NumGoroutine" :=(by simpa using h1);simp[invoke,callFunc,d,g,h]
 . cases a
def b8m{B:Nat}(W0:N2 B)(c:PV)(G1:Gh)(h1:l7)(w1:World)(l:Nat)(d:W0.m≤w1.heap.size)(e:l<w1.heap.size)(st:Loop):N2 B:=
 ⟨w1.heap.size,fun _ G' h' w'=>Ext G1 h1 w1 G' h' w'∧W0.psi c G' h' w'∧w'.heap[l]?=some (.loop st)∧KD w1 w'∧w1.heap.size≤w'.heap.size,fun h=>h.2.2.2.2,
  fun h x b=>⟨h.1.trans x,W0.step h.2.1 x b,b.same _ _ h.2.2.1 rfl,h.2.2.2.1.trans (KD.bl b),V1 h.2.2.2.2 b.size⟩,
  fun r h s=>⟨h.1.trans (r.cells (by rw[s.size];exact m9 _) s.cells).2,W0.shut r h.2.1 (s.mono d),(s.low _ e).trans h.2.2.1,
   fun k a=>(s.low k (a2I.1 a).1).trans (h.2.2.2.1 k a),by rw[s.size];exact h.2.2.2.2⟩⟩
def a3I{B:Nat}(W0:N2 B)(a:PV)(G:Gh)(h:l7)(W1:World)(l:Nat)(rec:LoopState→Option Code→Loop):Option Q7→Gh→l7→World→Prop:=fun p G' h' w'=>
 Ext G h W1 G' h' w'∧W0.psi a G' h' w'∧w'.heap[l]?=some (.loop (rec (stc p).1 (stc p).2))∧KD W1 w'
theorem c7J(hm:P.follows .mixedOrders=true)(H:vs.Nodup){ps:Array Tmp}{a b:Code}{k w S:Nat}{x y:C7}(ag:E9 P vs N k a=some (I1 x,w))(hb:E9 P vs N w b=some (I1 y,S))(ah:noR a=true)(ai:noR b=true)(aj:ps.all (Nat.blt · N)=true)
 {W0:N2 B} {vars:List PV} {act:Act} (T:act.tmps.size=N) {W1:World} {l:Nat} (ak:W0.m≤l) {fn:FuncId} {al:Nat} {rec:LoopState→Option Code→Loop} (z:rec=fun st am=>{state:=st,pending:=am,fn,tmps:=act.tmps,params:=ps,assign:=a,body:=b,defers:=al}) (an:X0 G h W1 vs vars act)
 {args:List PV} {h1:l7} {A:Option Q7→l7→Prop} (hlen:args.length=(ps.toList.map fun t=>vs.idxOf? t).length) (ao:G8 (fns P) x (a8E fun ap U=>G8 (fns P) y (fun e _ C=>A (a9n e) C) ap U) (a6B vars (ps.toList.map fun t=>vs.idxOf? t) args) h1)
 {G1:Gh} {w1:World} {d:Array Value} (r1:s6 B Z0 G1 h1 w1) (aq:a3I W0 (Y1 vs vars) G h W1 l rec none G1 h1 w1) (I:J4 (j8 G1 h1 w1 D) d args) (n:Nat):YieldAt (fz none) n P l d w1 (ItR B Z0 (a3I W0 (Y1 vs vars) G h W1 l rec) A G1 h1 w1):=by
 obtain⟨V,ar,J,p4⟩:=aq;have W:args.length=ps.toList.length:=by simpa using hlen
 have K:=run_yield (P:=P) (args:=d) J (by rw[z];have:=I.1;simp[stc];simp at W;omega);rw[z]at K;simp only[stc]at K;refine⟨fn,_,a,b,K,roundIn_of_wpIn (F:=fz none) trivial ?_⟩;show a.wpIn (fz (some l)) n P _ _ w1;have au:∀t∈ps.toList,t<N:=fun t L=>by have:=Array.all_eq_true'.1 aj t (by simpa using L);simpa[a1K]using this
 have v0:X0 G1 h1 w1 vs vars {tmps:=act.tmps,defers:=[]}:=fun k s f=>by obtain⟨v,g,j⟩:=an k s f;exact⟨v,g,j.ext V⟩
 obtain⟨v1,v2⟩:=b5T H ps.toList d.toList args vars {tmps:=act.tmps,defers:=[]} W (by simpa using I.1) (fun i c av=>by obtain⟨u,g,j⟩:=I.2 i c av;exact⟨u,by simpa using g,j⟩) (fun t L=>by have:=au t L;rw[←T]at this;exact this) v0
 have aw:((ps.zip d).foldl (fun tmps x=>match x with|(t,a)=>tmps.setIfInBounds t a) act.tmps)=(ps.toList.zip d.toList).foldl (fun t x=>t.setIfInBounds x.1 x.2) act.tmps:=by rw[←Array.foldl_toList,Array.toList_zip]
 rw[aw];have X:l<w1.heap.size:=(a2I.1 J).1;have Y:W0.m≤w1.heap.size:=i9;have aD:∀{w1:World} {r:Loop} (o:Loop),w1.heap[l]?=some (.loop r)→Y7 W0.m w1 (w1.putObj l (.loop o)):=fun o h=>Y7.put h rfl ak;refine b3W (W0:=b8m W0 (Y1 vs vars) G1 h1 w1 l Y X (rec .ready none)) (FN:=fns P) (ρ:=some l) hm H rfl rfl a6a a ah k w x ag _ _ _ _ _ _ ao ⟨G1,r1,v1,by rw[v2];exact T,a0u.nil,Ext.refl,ar,J,KD.refl _,m9 _⟩ ?_;intro e aE U a2 w2 ax he;cases e with
 |exit id=>exact he.elim
 |ret=>exact he.elim
 |normal=>
  obtain⟨G2,s1,s2,ay,az,t1,t2,t3,t4,t5⟩:=ax;refine⟨_,run_beginRound t3 (by rw[z]),?_⟩;show b.wpIn (fz (some l)) n P _ a2 _;obtain⟨q,M⟩:∃q,w2.putObj l (.loop {rec .ready none with state:=.busy})=q:=⟨_,rfl⟩
  have hs:Y7 W0.m w2 q:=by grind
  have Z:KD w2 q:=by rw[←M];exact KD.put t3
  obtain⟨c1,aa⟩:=s1.cells (w':=q) (by rw[hs.size];exact m9 _) hs.cells;rw[M];refine b3W (W0:=b8m W0 (Y1 vs vars) G1 h1 w1 l Y X {rec .ready none with state:=.busy}) (FN:=fns P) (ρ:=some l) hm H rfl rfl a6a b ai w S y hb _ _ _ _ _ _ he ⟨G2,c1,fun k s f=>by obtain⟨v,g,j⟩:=s2 k s f;exact⟨v,g,j.ext aa⟩,ay,az.kd Z,t1.trans aa,W0.shut s1 t2 hs,by rw[←M];exact World.putObj_heap_same (a2I.1 t3).1,t4.trans Z,by rw[hs.size];exact t5⟩ ?_
  intro e aF C a3 w3 aA O;obtain⟨G3,ab,aG,aH,aI,ac,aB,Q,ad,aC⟩:=aA;have fin:∀p,A p C→∃v w',(Instr.endRound l (stc p).2).run P w3=.ok v w'∧ItR B Z0 (a3I W0 (Y1 vs vars) G h W1 l rec) A G1 h1 w1 (.returned v) w':=fun p f=>by
   obtain⟨f1,f2,f3⟩:=c0u p;have hr:=run_endRound (P:=P) (stc p).2 Q;obtain⟨w4,R⟩:∃w4,w3.putObj l (.loop (rec (stc p).1 (stc p).2))=w4:=⟨_,rfl⟩
   have E:Y7 W0.m w3 w4:=(by grind);have ae:KD w3 w4:=(by rw[←R];exact KD.put Q);obtain⟨d1,af⟩:=ab.cells (w':=w4) (by rw[E.size];exact m9 _) E.cells;refine⟨_,w4,by rw[hr,←R,f2,z],p,C,G3,by rw[f1],f,d1,ac.trans af,?_,by rw[E.size];exact aC,fun m aJ hd=>hd.kd (ad.trans ae)⟩;exact⟨V.trans (ac.trans af),W0.shut ab aB E,by rw[←R];exact World.putObj_heap_same (a2I.1 Q).1,p4.trans (ad.trans ae)⟩
  cases e with
  |normal=>exact fin none O
  |ret=>exact fin (some .ret) O
  |exit id=>exact fin (some (.exit id)) O
theorem c1c(hm:P.follows .mixedOrders=true)(ad:vs.Nodup){g:Operand}{ps:Array Tmp}{a b:Code}{k V ae:Nat}{x y:C7}{gd:A0}(af:E9 P vs N k a=some (I1 x,V))(hb:E9 P vs N V b=some (I1 y,ae))(ag:a0x vs [] 0 g=some gd)(ah:noR a=true)(ai:noR b=true)(aj:ps.all (Nat.blt · N)=true)
 {W0:N2 B} {nn:Nat} {Q':J1} {Q:Exit→Act→World→Prop} {vars:List PV} {act:Act} (m:G8 (fns P) (.rfor gd (ps.toList.map fun t=>vs.idxOf? t) x y) Q' vars h) (hi:O2 B Z0 W0 vs N vars h act w) (o:a9R B Z0 W0 vs N Q' Q):(Code.rangeFunc g ps a b).wpIn (fz none) nn P Q act w:=by
 obtain⟨G,H,I,W,ak,X⟩:=hi;simp only[G8]at m;obtain⟨f,cap,al,am,an,ao⟩:=(show IT P _ _ _ _ from m)
 have d:=b1D ag I;rw[al]at d;unfold D at d;unfold j8 at d;obtain⟨ap,r,d,aq,ar⟩:=d;have au:ap= #[]:=b1K (by simpa using aq.1);subst au;refine wpIn_rangeFunc fun fn aP=>?_;obtain⟨rec,z⟩:∃rec:LoopState→Option Code→Loop,rec=fun st av=>{state:=st,pending:=av,fn,tmps:=act.tmps,params:=ps,assign:=a,body:=b,defers:=w.heap.size}:=⟨_,rfl⟩
 obtain⟨W1,i⟩:∃W1,(w.alloc (.deferred (some []))).alloc (.loop (rec .ready none))=W1:=⟨_,rfl⟩
 have Y:W1.heap[w.heap.size+1]?=some (.loop (rec .ready none)):=by rw[←i];have:=World.alloc_heap_new (w.alloc (.deferred (some []))) (.loop (rec .ready none));rwa[World.size_alloc]at this
 have aw:W1.heap[w.heap.size]?=some (.deferred (some [])):=by rw[←i];exact(Below.heap_alloc _ _ _ l5).trans (World.alloc_heap_new w _)
 have aQ:W1.heap.size=w.heap.size+2:=by rw[←i];simp
 have J:Bl B w W1:=by rw[←i];exact((Bl.refl B w).alloc H.base _).alloc (by have:=H.base;simp;omega) _
 have ax:∀b,W4 w b→W1.heap[b]?=w.heap[b]?:=fun b hb=>by rw[←i];exact(Below.heap_alloc _ _ _ (by have:=hb.lt;simp;omega)).trans (Below.heap_alloc _ _ _ hb.lt)
 obtain⟨ay,A⟩:=H.cells (w':=W1) J.size ax;have az:=W0.step X A J;have aA:=W0.ms X;obtain⟨l,Z⟩:∃l,w.heap.size+1=l:=⟨_,rfl⟩
 rw[Z]at Y;have aB:∀{p:Option Q7} {G2:Gh} {c:l7} {w2:World} {G':Gh} {h':l7} {w':World},a3I W0 (Y1 vs vars) G h W1 l rec p G2 c w2→Ext G2 c w2 G' h' w'→Bl B w2 w'→a3I W0 (Y1 vs vars) G h W1 l rec p G' h' w':=by intro p G2 c w2 G' h' w' hp m K;exact⟨hp.1.trans m,W0.step hp.2.1 m K,K.same _ _ hp.2.2.1 rfl,hp.2.2.2.trans (KD.bl K)⟩
 have aC:∀{Z1:Nat→Prop} {p:Option Q7} {G2:Gh} {c:l7} {w1 w2:World},s6 B Z1 G2 c w1→a3I W0 (Y1 vs vars) G h W1 l rec p G2 c w1→Y7 W1.heap.size w1 w2→a3I W0 (Y1 vs vars) G h W1 l rec p G2 c w2:=by intro Z1 p G2 c w1 w2 hr hp hs;exact⟨hp.1.trans (hr.cells (by rw[hs.size];exact m9 _) hs.cells).2,W0.shut hr hp.2.1 (hs.mono i9),(hs.low _ i9).trans hp.2.2.1,fun k j=>(hs.low k (a2I.1 j).1).trans (hp.2.2.2 k j)⟩
 have hΨ0:a3I W0 (Y1 vs vars) G h W1 l rec none G h W1:=⟨Ext.refl,az,Y,KD.refl _⟩
 have aD:X0 G h W1 vs vars act:=fun k s j=>by obtain⟨v,L,M⟩:=I k s j;exact⟨v,L,M.ext A⟩
 have aE:J4 (j8 G h W1 D) r cap:=(a6T ar an).mono fun _ _ q=>q.ext A;have aF:∀{args:List PV} {h1:l7} {O:Option Q7→l7→Prop},(args.length=(ps.toList.map fun t=>vs.idxOf? t).length∧G8 (fns P) x (a8E fun aG c=>G8 (fns P) y (fun e _ aH=>O (a9n e) aH) aG c) (a6B vars (ps.toList.map fun t=>vs.idxOf? t) args) h1)→
  ∀{G1:Gh} {w1:World} {R:Array Value},s6 B Z0 G1 h1 w1→a3I W0 (Y1 vs vars) G h W1 l rec none G1 h1 w1→J4 (j8 G1 h1 w1 D) R args→∀n,YieldAt (fz none) n P l R w1 (ItR B Z0 (a3I W0 (Y1 vs vars) G h W1 l rec) O G1 h1 w1):=by
  intro args h1 O aa G1 w1 R r1 aI aJ n;exact c7J hm ad af hb ah ai aj W i9 z aD aa.1 aa.2 r1 aI aJ n
 have aK:=ao B Z0 G W1 r l (a3I W0 (Y1 vs vars) G h W1 l rec) ay aE aB aC aF hΨ0;refine⟨l,[{target:=.collected w.heap.size,args:= #[]}],W1,{target:=.fn (.func f) r,args:= #[.func (.yield l) #[] #[]]},W1,f,#[.func (.yield l) #[] #[]]++r,W1,?_,?_,fun _ _=>trivial,?_,fun e=>(by cases e),?_⟩
 . rw[←i,z,←Z];exact run_enterLoop_outer _ _ _ _ _
 . simp only[resolve,d];simp[go_sem]
 . exact c9i am
 refine a4y.2 (Calls.mono aK ?_);rintro e w' ⟨u,p,h',G',rfl,C,r1,aR,aL,aM,S,p4⟩;have aN:=run_endLoop (P:=P) S (by rw[z];exact(c0u p).2.2);obtain⟨w4,T⟩:∃w4,w'.putObj l (.loop {rec (stc p).1 (stc p).2 with state:=.exhausted})=w4:=⟨_,rfl⟩
 have U:Y7 W0.m w' w4:=by rw[←T];exact Y7.put S rfl i9
 have ab:KD w' w4:=by rw[←T];exact KD.put S
 obtain⟨d1,aO⟩:=r1.cells (w':=w4) (by rw[U.size];exact m9 _) U.cells;have E:O2 B Z0 W0 vs N vars h' {act with defers:=[{target:=.collected w.heap.size,args:= #[]}]++act.defers} w4:=by
  refine⟨G',d1,fun k s j=>?_,W,?_,W0.shut r1 aM U⟩
  . obtain⟨v,L,M⟩:=I k s j;exact⟨v,L,((M.ext A).ext aL).ext aO⟩
  . obtain⟨Ds,m1,m2,ac⟩:=ak;refine⟨w.heap.size::Ds,a4E.2 ⟨fun hm=>?_,m1⟩,by simp[m2],fun D' F=>?_⟩
    . grind
    . rcases a0p.1 F with rfl|F
      . exact⟨aA,ab _ (p4 _ aw)⟩
      . exact⟨(ac D' F).1,ab _ (p4 _ (KD.bl J _ (ac D' F).2))⟩
 refine⟨_,w4,by rw[aN,T],?_⟩;rw[z];rcases p with _|e
 . exact o .normal _ _ _ _ E C
 . cases e with
   |normal=>exact wpIn_skip (o .normal _ _ _ _ E C)
   |ret=>exact wpIn_ret (o .ret _ _ _ _ E C)
   |exit id=>exact wpIn_exit (o (.exit id) _ _ _ _ E C)
theorem c0S:∀{c:Code} {k f:Nat} {x:C7},E9 P vs N k c=some (x,f)→I1 x=x:=by
 intro c
 induction c with
 |region id ops d=>
  intro k f x e;simp only[E9]at e;split at e
  . cases e;rfl
  . cases e
 |seq a b h i=>
  intro k f x e;simp only[E9]at e;split at e
  . rename_i h1;split at e
    . rename_i j;cases e;simp only[I1,h h1,i j]
    . cases e
  . cases e
 |cond m a b h i=>
  intro k f x e;simp only[E9]at e;split at e
  . rename_i h1;split at e
    . rename_i j;split at e
      . cases e;simp only[I1,h h1,i j]
      . cases e
    . cases e
  . cases e
 |block id b l=>
  intro k f x e;simp only[E9]at e;split at e
  . rename_i h1;cases e;simp only[I1,l h1]
  . cases e
 |loop b l=>
  intro k f x e;simp only[E9]at e;split at e
  . rename_i h1;cases e;simp only[I1,l h1]
  . cases e
 |scope b l=>intro k f x e;exact l (show E9 P vs N k b=_ from e)
 |rangeFunc g ps a b h i=>
  intro k f x e;simp only[E9]at e;split at e
  . rename_i h1;split at e
    . rename_i j;split at e
      . split at e
        . cases e;simp only[I1,h h1,i j]
        . cases e
      . cases e
    . cases e
  . cases e
 |skip=>intro k f x e;simp only[E9,s7,s9]at e;obtain⟨rfl,_⟩:=e;rfl
 |label=>intro k f x e;simp only[E9,s7,s9]at e;obtain⟨rfl,_⟩:=e;rfl
 |exit=>intro k f x e;simp only[E9,s7,s9]at e;obtain⟨rfl,_⟩:=e;rfl
 |ret=>intro k f x e;simp only[E9,s7,s9]at e;obtain⟨rfl,_⟩:=e;rfl
 |_=>intro k f x e;simp only[E9]at e;cases e
theorem c7l{W0:N2 B}{nn:Nat}(hm:P.follows .mixedOrders=true)(u:vs.Nodup):∀(c:Code) (k o:Nat) (x:C7),E9 P vs N k c=some (x,o)→∀(Q':J1) (Q:Exit→Act→World→Prop) (vars:List PV) (h:l7) (a:Act) (w:World),
 G8 (fns P) x Q' vars h→O2 B Z0 W0 vs N vars h a w→a9R B Z0 W0 vs N Q' Q→c.wpIn (fz none) nn P Q a w:=by
 intro c
 induction c with
 |skip=>
  intro k o x f Q' Q vars h a w j hi m;simp only[E9,s7,s9]at f;obtain⟨rfl,rfl⟩:=f;exact wpIn_skip (m .normal _ _ _ _ hi j)
 |label l=>
  intro k o x f Q' Q vars h a w j hi m;simp only[E9,s7,s9]at f;obtain⟨rfl,rfl⟩:=f;exact wpIn_label (m .normal _ _ _ _ hi j)
 |exit id=>
  intro k o x f Q' Q vars h a w j hi m;simp only[E9,s7,s9]at f;obtain⟨rfl,rfl⟩:=f;exact wpIn_exit (m (.exit id) _ _ _ _ hi j)
 |ret=>
  intro k o x f Q' Q vars h a w j hi m;simp only[E9,s7,s9]at f;obtain⟨rfl,rfl⟩:=f;exact wpIn_ret (m .ret _ _ _ _ hi j)
 |region id ops d=>
  intro k o x f Q' Q vars h a w j hi m;simp only[E9]at f;split at f
  . rename_i xs q A;cases f;obtain⟨C,j⟩:=j;rw[show ops=ops.toList.toArray by simp];cases d with
    |false=>exact b2n rfl rfl a6a u A C j (fun st a w hi v=>m .normal _ _ _ _ hi v) hi
    |true=>exact b3l hm rfl rfl a6a u A C j (fun st a w hi v=>m .normal _ _ _ _ hi v) hi
  . cases f
 |seq c1 c2 y z=>
  intro k o x f Q' Q vars h a w j hi m;simp only[E9]at f;split at f
  . rename_i s q h1;split at f
    . rename_i D E p;cases f;refine wpIn_seq (y _ _ _ h1 _ _ _ _ _ _ j hi fun e vars h a w hi he=>?_);cases e with
      |normal=>exact z _ _ _ p _ _ _ _ _ _ he hi m
      |exit id=>exact m (.exit id) _ _ _ _ hi he
      |ret=>exact m .ret _ _ _ _ hi he
    . cases f
  . cases f
 |cond K c1 c2 y z=>
  intro k o x f Q' Q vars h a w j hi m;simp only[E9]at f;split at f
  . rename_i s q h1;split at f
    . rename_i D E p;split at f
      . rename_i dd F;cases f;obtain⟨G,L,H,M⟩:=id hi;have hr:=b1D F H;simp only[G8]at j;split at j
        . rename_i he;rw[he]at hr;exact wpIn_cond_true (a1f hr) (y _ _ _ h1 _ _ _ _ _ _ j hi m)
        . rename_i he;rw[he]at hr;exact wpIn_cond_false (a1f hr) (z _ _ _ p _ _ _ _ _ _ j hi m)
        . exact j.elim
      . cases f
    . cases f
  . cases f
 |block id c r=>
  intro k o x f Q' Q vars h a w j hi m;simp only[E9]at f;split at f
  . rename_i s q h1;cases f;refine wpIn_block (r _ _ _ h1 _ _ _ _ _ _ j hi fun e vars h a w hi he=>?_);cases e with
    |normal=>exact m .normal _ _ _ _ hi he
    |exit i=>
     simp only[xin]at he;show Exit.inBlock id Q (.exit i) a w;simp only[Exit.inBlock];split at he
     . rename_i e;rw[if_pos e];exact m .normal _ _ _ _ hi he
     . rename_i e;rw[if_neg e];exact m (.exit i) _ _ _ _ hi he
    |ret=>exact m .ret _ _ _ _ hi he
  . cases f
 |loop c r=>
  intro k o x f Q' Q vars h a w j hi m;simp only[E9]at f;split at f
  . rename_i s q h1;cases f;obtain⟨n,j⟩:=j;refine wpIn_loop_rounds n ?_
    induction n generalizing vars h a w with
    |zero=>exact j.elim
    |succ n I=>
     refine r _ _ _ h1 _ _ _ _ _ _ j hi fun e vars h a w hi he=>?_;cases e with
     |normal=>exact I _ _ _ _ hi he
     |exit id=>exact m (.exit id) _ _ _ _ hi he
     |ret=>exact m .ret _ _ _ _ hi he
  . cases f
 |scope c r=>
  intro k o x f Q' Q vars h a w j hi m;simp only[E9]at f;refine b3F (r _ _ _ f _ _ _ _ _ _ j hi fun e vars h a w hi he=>?_);cases e with
  |normal=>exact m .normal _ _ _ _ hi he
  |exit id=>exact m (.exit id) _ _ _ _ hi he
  |ret=>exact m .ret _ _ _ _ hi he
 |rangeFunc g ps a b O R=>
  intro k o x f Q' Q vars h act w j hi m;simp only[E9]at f;split at f
  . rename_i s q h1;split at f
    . rename_i D E p;split at f
      . rename_i gd J;split at f
        . rename_i t;cases f;simp only[G4]at t;exact c1c hm u (by rw[c0S h1];exact h1) (by rw[c0S p];exact p) J t.1.1 t.1.2 t.2 j hi m
        . cases f
      . cases f
    . cases f
  . cases f
 |_=>
  intro k o x f;simp only[E9]at f;cases f
end
theorem a8L{x:PV}(h:∀cs,x≠ .agg cs):l9 x=[x]:=by cases x<;>first|rfl|exact absurd rfl (h _)
theorem c5X{x:PV}(h:∀cs,x≠ .tup cs):a0k x=[x]:=by cases x<;>first|rfl|exact absurd rfl (h _)
theorem a8V(lk:E1)(c:PV):(∀cs,rvC lk c≠ .agg cs)∧∀cs,rvC lk c≠ .tup cs:=by
 cases c<;>simp only[rvC]<;>(try (refine⟨fun cs e=>?_,fun cs e=>?_⟩<;>cases e;done))
 . grind
 . grind
theorem a9a(lk:E1)(c:PV):(∃cs,c=.agg cs)∨((∀cs,c≠ .agg cs)∧rvE lk c=rvC lk c):=by
 cases c
 case agg cs=>exact .inl ⟨cs,rfl⟩
 all_goals exact .inr (And.intro (fun cs e=>absurd e l5) rfl)
theorem b7e(lk:E1)(q:PV):B9 (rvV lk q)=(B9 q).map (rvC lk):=by
 have h1:∀c,l9 (rvE lk c)=(l9 c).map (rvC lk):=fun c=>by
  rcases a9a lk c with⟨cs,rfl⟩|⟨h,e⟩
  . rfl
  . rw[e,a8L (a8V lk c).1,a8L h];rfl
 have a:∀c,a0k (rvE lk c)=[rvE lk c]:=fun c=>by
  rcases a9a lk c with⟨cs,rfl⟩|⟨h,e⟩
  . rfl
  . rw[e,c5X (a8V lk c).2]
 unfold B9;cases q<;>simp only[rvV]
 case tup vs=>simp only[a0k,List.flatMap_map,List.map_flatMap,h1]
 all_goals
  rw[a];simp only[a0k,a2Z,List.flatMap_nil,a1u,h1]
section
variable{P:Program}{B:Nat}{Z0:Nat→Prop}{G G':Gh}{h h':l7}{w w':World}
def a0l(cells:List PV)(lk:E1)(p:Nat):Option Nat:=match cells[p]? with
 |some (.own k g a s o l)=>(match rvC lk (.own k g a s o l)with
  | .uslc _=>some k
  |_=>none)
 |_=>none
def Gh.out(G:Gh)(a:Nat→Option Nat):Gh:=
 {β:=fun key=>match a key.1 with|some k=>G.β (k,key.2)|none=>0
  R:=fun key=>match a key.1 with|some k=>G.R (k,key.2)|none=>False
  γ:=fun key=>match a key.1 with|some k=>G.γ (k,key.2)|none=>0
  σ:=fun key=>match a key.1 with|some k=>G.σ (k,key.2)|none=>0
  Z:=G.Z}
theorem b7c{lk:E1}{c:PV}{es:List PV}(h:rvC lk c=.uslc es):∃k g s ver a l,c=.own k g a.length s 0 l∧l≤a.length∧es=a.take l∧lk k=(g,.arr s ver false a)∧a.all D5=true:=by
 cases c<;>simp only[rvC]at h<;>(try (cases h;done))
 case mapv k g=>
  split at h
  . split at h<;>cases h
  . cases h
 case own k g d s o l=>
  split at h
  . rename_i e s' ver fr es' f;split at h
    . rename_i b;obtain⟨rfl,rfl,rfl,rfl,i,j⟩:=b;split at h
      . grind
      . grind
    . cases h
  . cases h
theorem b8R:∀{cells:List PV},(cells.filterMap fun c=>match c with| .own k _ _ _ _ _=>some k|_=>none).Nodup→∀{i j k g a s o l d e s' o' f:Nat},cells[i]?=some (.own k g a s o l)→cells[j]?=some (.own k d e s' o' f)→i=j
 | [],_,i,j,_,_,_,_,_,_,_,_,_,_,_,hi,_=>by simp at hi
 |c::cells,b,i,j,k,g,a,s,o,l,d,e,s',o',f,hi,hj=>by
  have h:∀{m g a s o l:Nat},cells[m]?=some (.own k g a s o l)→k∈cells.filterMap fun c=>match c with| .own k _ _ _ _ _=>some k|_=>none:=fun hm=>a9D.2 ⟨_,D4 hm,rfl⟩
  have tail:(cells.filterMap fun c=>match c with| .own k _ _ _ _ _=>some k|_=>none).Nodup:=by grind
  cases i with
  |zero=>
   cases j with
   |zero=>rfl
   |succ j=>
    exfalso;simp at hi;subst hi;simp only[List.filterMap_cons]at b;exact(a4E.1 b).1 (h (by simpa using hj))
  |succ i=>
   cases j with
   |zero=>
    exfalso;simp at hj;subst hj;simp only[List.filterMap_cons]at b;exact(a4E.1 b).1 (h (by simpa using hi))
   |succ j=>
    have:=b8R tail (show cells[i]?=some _ by simpa using hi) (show cells[j]?=some _ by simpa using hj);omega
theorem b3S{szs:List Nat}:∀{cells:List PV} {q:Nat},a3S szs q cells=true→∀{i k g a s o l:Nat},cells[i]?=some (.own k g a s o l)→szs.getD (q+i) 0=s
 | [],_,_,i,_,_,_,_,_,_,hi=>by simp at hi
 |c::cells,q,h,i,k,g,a,s,o,l,hi=>by
  have tail:a3S szs (q+1) cells=true:=by cases c<;>simp only[a3S,G4]at h<;>first|exact h|exact h.2
  cases i with
  |zero=>
   simp at hi;subst hi;simp only[a3S,G4,beq_iff_eq]at h;exact h.1
  |succ i=>
   have:=b3S tail (i:=i) (by simpa using hi);rw[←this,show q+(i+1)=q+1+i by omega]
theorem c4M(hr:s6 B Z0 G h w){q:PV}{szs:List Nat}(ak:a3f (a8P q)=true)(Z:a3S szs 0 (B9 q)=true):
 s6 B Z0 (G.out (a0l (B9 q) (l8 h []))) (a0M szs (rvV (l8 h []) q)) w∧
 ∀{n:Nat} {u:Value} {p:Nat} {c:PV},(B9 q)[p]?=some c→j8 G h w n u c→j8 (G.out (a0l (B9 q) (l8 h []))) (a0M szs (rvV (l8 h []) q)) w n u (N1 (a1b szs p) (fun _=>1) (rvC (l8 h []) c)):=by
 have al:=a5n ak;have S:∀{p k},a0l (B9 q) (l8 h []) p=some k→∃g s ver es l,(B9 q)[p]?=some (.own k g es.length s 0 l)∧l≤es.length∧rvC (l8 h []) (.own k g es.length s 0 l)=.uslc (es.take l)∧h[k]?=some (g,.arr s ver false es)∧es.all D5=true:=fun{p k} hj=>by
  unfold a0l at hj;split at hj
  . rename_i aT g K s o l d;split at hj
    . rename_i es he;cases hj;obtain⟨am,g2,s2,ver,aa,P,h1,an,ao,L,ap⟩:=b7c he;cases h1;exact⟨_,_,ver,aa,l,d,an,by rw[he,ao],S8 L l5,ap⟩
    . cases hj
  . cases hj
 have aU:∀{p es},(B9 (rvV (l8 h []) q))[p]?=some (.uslc es)→∃k,a0l (B9 q) (l8 h []) p=some k:=fun{p es} hp=>by rw[b7e,H6]at hp;obtain⟨c,d,he⟩:=D0.1 hp;obtain⟨k,g,s,ver,aa,P,rfl,_⟩:=b7c he;refine⟨k,?_⟩;unfold a0l;rw[d];simp only;rw[he]
 have aq:∀{p k},a0l (B9 q) (l8 h []) p=some k→∀{es g K s l},(B9 q)[p]?=some (.own k g K s 0 l)→rvC (l8 h []) (.own k g K s 0 l)=.uslc es→(a0M szs (rvV (l8 h []) q))[p]?=some (1,.arr s 0 false es):=fun{p k} hj {es g K s l} d he=>by have:=a9o (szs:=szs) (r:=rvV (l8 h []) q) (p:=p) (es:=es) (by rw[b7e,H6,d];simp[he]);rw[this];have:=b3S Z d;rw[V9]at this;rw[this]
 have C:∀{p k y},a0l (B9 q) (l8 h []) p=some k→(G.out (a0l (B9 q) (l8 h []))).β (p,y)=G.β (k,y)∧((G.out (a0l (B9 q) (l8 h []))).R (p,y)↔G.R (k,y))∧(G.out (a0l (B9 q) (l8 h []))).γ (p,y)=G.γ (k,y)∧(G.out (a0l (B9 q) (l8 h []))).σ (p,y)=G.σ (k,y):=fun{p k y} hj=>by refine⟨?_,?_,?_,?_⟩<;>simp only[Gh.out,hj]
 have Q:∀{p y},(G.out (a0l (B9 q) (l8 h []))).R (p,y)→∃k,a0l (B9 q) (l8 h []) p=some k:=fun{p y} t=>by
  cases hj:a0l (B9 q) (l8 h []) p with
  |some k=>exact⟨k,rfl⟩
  |none=>simp only[Gh.out,hj]at t
 have ab:∀{p g o},(a0M szs (rvV (l8 h []) q))[p]?=some (g,o)→o=.dead∨∃k g0 s ver es l,a0l (B9 q) (l8 h []) p=some k∧h[k]?=some (g0,.arr s ver false es)∧es.all D5=true∧g=1∧o=.arr s 0 false (es.take l):=fun{p g o} H=>by
  rcases b5e H with rfl|⟨es,h1,rfl,L⟩
  . exact .inl rfl
  . grind
 refine⟨⟨hr.base,hr.zo,hr.zb,?_,?_,?_,?_,?_⟩,?_⟩
 . rintro⟨p,y⟩ t;obtain⟨k,E⟩:=Q t;obtain⟨z,a2,_⟩:=C (y:=y) E;rw[z];exact hr.lv _ (a2.1 t)
 . rintro p g o H aV y t;obtain⟨k,E⟩:=Q t;obtain⟨z,a2,_⟩:=C (y:=y) E;obtain⟨g0,s,ver,es',P,R,_,ac,U,V⟩:=S E;rw[z];exact hr.nz k _ _ U rfl y (a2.1 t)
 . intro p g o H ar y t;rcases ab H with rfl|⟨_,_,_,_,_,_,_,_,_,_,rfl⟩<;>cases ar
 . rintro⟨aW,au⟩ ⟨aX,av⟩ h1 L he;obtain⟨aY,ad⟩:=Q h1;obtain⟨am,ae⟩:=Q L;obtain⟨z,a2,_⟩:=C (y:=au) ad;obtain⟨af,W,_⟩:=C (y:=av) ae;have:=hr.inj _ _ (a2.1 h1) (W.1 L) i9;simp only[s9]at this;obtain⟨rfl,rfl⟩:=this;obtain⟨g0,s,ver,es',P,R,_⟩:=S ad;obtain⟨aZ,s',ver',a0,a1,r1,_⟩:=S ae;rw[b8R al R r1]
 . rintro p g o H;rcases ab H with rfl|⟨k,g0,s,ver,es,P,E,M,N,rfl,rfl⟩
   . trivial
   . have ag:=hr.ob k _ _ M;unfold F9 at ag⊢;obtain⟨z,a2,a3,a4⟩:=C (y:=none) E;rw[show(G.out (a0l (B9 q) (l8 h []))).β (root p)=G.β (root k)from z,show(G.out (a0l (B9 q) (l8 h []))).γ (root p)=G.γ (root k)from a3];obtain⟨aw,ax,ay,az,aA⟩:=ag;refine⟨aw,V1 (by grind) ax,ay,fun t=>?_,fun t=>by rw[aA fun y=>t (a2.2 y)];exact List.take_nil⟩;obtain⟨us,T,aB,aC,aD⟩:=az (a2.1 t);refine⟨us,T,aB,aC,fun i e he=>?_⟩;have he:es[i]?=some e:=(by grind);obtain⟨aE,aF⟩:=aD i e he;refine⟨aE,fun j c d=>?_⟩;obtain⟨u,aG,A⟩:=aF j c d;refine⟨u,aG,?_⟩;have aH:(A9 c||I5 c)=true:=B0.1 (show(l9 e).all (fun c=>A9 c||I5 c)=true from B0.1 N e (D4 he)) c (D4 d);cases c
     case uslc ns=>
      unfold H4 O8 at A⊢;obtain⟨af,W,aI,aJ⟩:=C (y:=some (i,j)) E;rw[af,W,aI,aJ];exact A
     case nils=>
      unfold H4 at A⊢;obtain rfl:=a0v A.2;exact⟨rfl,a4T⟩
     all_goals
      unfold H4 at A⊢;exact⟨A.1,a1H A.1 (a4f (G:=G) (h:=h) (by simpa[I5]using aH) A.2)⟩
 . intro n u p c hp d;have I:∀{x},x=PV.uu→j8 (G.out (a0l (B9 q) (l8 h []))) (a0M szs (rvV (l8 h []) q)) w n u x:=fun e=>(by rw[e];exact K9);cases c<;>simp only[rvC]<;>(try exact I rfl)
   case bool=>simp only[N1];obtain rfl:=a1f d;exact a1l
   case int=>simp only[N1];obtain rfl:=a0f d;exact a0Q
   case str=>simp only[N1];obtain rfl:=a2W d;exact a5u
   case nils=>simp only[N1];obtain rfl:=a0v d;exact a4T
   case ne=>
    have v:=j8.cell (m:=D) (by refine⟨?_,?_,?_⟩<;>intros<;>simp) d;unfold D at v;unfold j8 at v;obtain⟨b,o,rfl⟩:=v;simp only[N1];exact a0T (PR.U8.2 ⟨some ⟨b,o,none⟩,0,0,rfl,m9 _,D6 _,fun _=>rfl,fun i e he=>by simp at he⟩)
   case lit=>simp only[N1];cases n<;>(unfold j8 at d⊢;exact d)
   case slc es=>simp only[N1];exact a0T (a3q (G:=G) (h:=h) d)
   case N3 ks vs=>simp only[N1];exact a6W (a8I (G:=G) (h:=h) d)
   case fptr cs=>simp only[N1];exact a4R (a9h (G:=G) (h:=h) d)
   case mapv k g=>
    split
    . rename_i ah ks vs J;split
      . rename_i X;obtain⟨rfl,aK⟩:=X;simp only[N1];have v:=j8.cell (m:=D) (by refine⟨?_,?_,?_⟩<;>intros<;>simp) d;exact a6W (b9b (G:=G) hr (S8 J l5) aK v)
      . exact I rfl
    . exact I rfl
   case own k g K s o l=>
    split
    . rename_i ah s' ver fr es J;split
      . rename_i X;obtain⟨rfl,rfl,rfl,rfl,hle,N⟩:=X;have fin:∀O,O=es.take l→rvC (l8 h []) (.own k ah es.length s' 0 l)=.uslc O→fr=false→j8 (G.out (a0l (B9 q) (l8 h []))) (a0M szs (rvV (l8 h []) q)) w n u (N1 (a1b szs p) (fun _=>1) (.uslc O)):=fun O aL ai F=>by
         subst F;have aj:O.length=l:=(by rw[aL,a1W];omega);have hj:a0l (B9 q) (l8 h []) p=some k:=by unfold a0l;rw[hp];simp only;rw[ai]
         have M:=S8 J l5;have aM:=aq hj hp ai;simp only[N1];rw[show(a1b szs p).1=p from rfl,show(a1b szs p).2=s' from by have:=b3S Z hp;rw[V9]at this;exact this]
         have v:=j8.cell (m:=D) (by refine⟨?_,?_,?_⟩<;>intros<;>simp) d;refine j8.cell (n:=D) (by refine⟨?_,?_,?_⟩<;>intros<;>simp) ?_;unfold D at v⊢;unfold j8 at v⊢;obtain⟨a,c,aN,R,ac,U,gn,ob,V,a5,aO⟩:=v;refine⟨a,c,by rw[aj];exact aN,by rw[aj];exact R,ac,U,_,_,aM,m9 _,fun _ sz vr fr es' aP=>?_⟩;cases aP;refine⟨m9 _,fun _=>?_⟩;rw[M]at V;cases V;obtain⟨_,aQ⟩:=aO rfl _ _ _ _ rfl;obtain⟨a6,aR,aS⟩:=aQ rfl;obtain⟨z,a2,a3,a4⟩:=C (y:=none) hj;rw[show(G.out (a0l (B9 q) (l8 h []))).β (root p)=G.β (root k)from z,show(G.out (a0l (B9 q) (l8 h []))).γ (root p)=G.γ (root k)from a3];refine⟨i9,fun t=>?_,fun t=>aS fun y=>t (a2.2 y)⟩;obtain⟨f,f1,f2,f3,f4⟩:=aR (a2.1 t);exact⟨f,f1,f2,i9,f4⟩
        split
        . rename_i Y;subst Y;split
          . rename_i F;subst F;simp only[N1];have M:=S8 J l5;have v:=j8.cell (m:=D) (by refine⟨?_,?_,?_⟩<;>intros<;>simp) d;exact a0T (a3q (G:=G) (h:=h) (b2D hr M N v))
          . rename_i F;obtain rfl:fr=false:=(by simpa using F);exact fin es M4.symm (by simp only[rvC,J];simp[N]) rfl
        . rename_i Y;split
          . exact I rfl
          . rename_i F;obtain rfl:fr=false:=(by simpa using F);exact fin _ rfl (by simp only[rvC,J];simp[N,Y,hle]) rfl
      . exact I rfl
    . exact I rfl
end
section
variable{n:Nat}{vs:List Nat}{lk:E1}{v:Value}{p r:PV}{vars l:List PV}{a:Act}{fn:Func}{rs:List (Nat×Option (Bool×Nat))}
theorem b7S(kz:Nat×Nat)(gen:Nat→Nat)(c:PV):(∀cs,N1 kz gen c≠ .agg cs)∧(∀cs,N1 kz gen c≠ .tup cs)∧∀f a b,N1 kz gen c≠ .fn f a b:=by cases c<;>simp[N1]
theorem c1r{ks:Nat→Nat×Nat}{gen:Nat→Nat}{q:Nat}{c:PV}(h:∀cs,c≠ .agg cs):a2h ks gen q c=N1 (ks q) gen c:=by cases c<;>first|rfl|exact absurd rfl (h _)
section
variable{P:Program}{B:Nat}{Z0:Nat→Prop}{G G':Gh}{h h':l7}{w w':World}
theorem b9a{ks:Nat→Nat×Nat}{gen:Nat→Nat}{cells:List PV}(b:∀{n:Nat} {u:Value} {p:Nat} {c:PV},cells[p]?=some c→j8 G h w n u c→j8 G' h' w n u (N1 (ks p) gen (rvC lk c))){q:Nat}{c:PV}
 (d:∀(i:Nat) x,(l9 c)[i]?=some x→cells[q+i]?=some x) (a:j8 G h w n v c) (m:Nat):j8 G' h' w (m+1) v (a2h ks gen q (rvE lk c)):=by
 rcases a9a lk c with⟨cs,rfl⟩|⟨g,e⟩
 . simp only[rvE,a2h];cases n with
   |zero=>unfold j8 at a;exact a.elim
   |succ n=>
    unfold j8 at a⊢;obtain⟨vs,rfl,h1,j⟩:=a;refine⟨vs,rfl,by rw[b4z];simpa using h1,fun i x hi=>?_⟩;rw[b0b,H6]at hi;obtain⟨c1,k,rfl⟩:=D0.1 hi;obtain⟨c0,f,rfl⟩:=D0.1 k;obtain⟨u,l,o⟩:=j i c0 f;exact⟨u,l,(b (d i c0 f) o).cell (b7S _ _ _)⟩
 . rw[e,c1r (a8V lk c).1];exact(b (d 0 c (by rw[a8L g];rfl)) a).cell (b7S _ _ _)
theorem b3b{lk:E1}{ks:Nat→Nat×Nat}{gen:Nat→Nat}{cells:List PV}(b:∀{n:Nat} {u:Value} {p:Nat} {c:PV},cells[p]?=some c→j8 G h w n u c→j8 G' h' w n u (N1 (ks p) gen (rvC lk c))){n:Nat}(m:Nat):∀{vs:List PV} {q:Nat} {U:Nat→Option Value},
 (∀(i:Nat) x,(vs.flatMap l9)[i]?=some x→cells[q+i]?=some x)→(∀(i:Nat) p,vs[i]?=some p→∃u,U i=some u∧j8 G h w n u p)→∀(i:Nat) p,(a1x ks gen q (vs.map (rvE lk)))[i]?=some p→∃u,U i=some u∧j8 G' h' w (m+1) u p
 | [],q,U,_,_,i,p,hp=>by simp[a1x]at hp
 |c::vs,q,U,d,f,i,p,hp=>by
  simp only[a0N,a1x]at hp;cases i with
  |zero=>
   simp at hp;subst hp;obtain⟨u,h1,g⟩:=f 0 c rfl;refine⟨u,h1,b9a b (fun i x a=>d i x ?_) g m⟩;rw[a2Z,a1k (B8.1 a).1];exact a
  |succ i=>
   have hlen:(l9 (rvE lk c)).length=(l9 c).length:=by
    rcases a9a lk c with⟨cs,rfl⟩|⟨j,e⟩
    . simp[rvE,l9]
    . rw[e,a8L (a8V lk c).1,a8L j];rfl
   rw[hlen]at hp;refine b3b b m (vs:=vs) (q:=q+(l9 c).length) (U:=fun i=>U (i+1)) (fun i x a=>?_) (fun i p hp=>f (i+1) p (by simpa using hp)) i p (by simpa using hp);rw[Nat.add_assoc];refine d _ x ?_;rw[a2Z,a3X i9,Nat.add_sub_cancel_left];exact a
theorem b9B{α:Type}{F:α→Sem Value}:∀(l:List α) (us:Nat→Value),(∀i a,l[i]?=some a→(F a).run P w=.ok (us i) w)→(l.mapM F).run P w=.ok ((List.range l.length).map us) w
 | [],us,_=>by simp
 |x::l,us,h=>by rw[List.mapM_cons,O3,h 0 x rfl];simp only[Result.andThen];rw[O3,b9B l (fun i=>us (i+1)) fun i a b=>h (i+1) a (by simpa using b)];simp only[Result.andThen,a1I,a0a];congr 1;rw[List.range_succ_eq_map];simp[Function.comp_def]
theorem c4w{α β:Type}{f:α→Option β}{l:List α}{m:List β}(h:N4 f l=some m):l.length=m.length∧∀(i:Nat) a,l[i]?=some a→∃b,m[i]?=some b∧f a=some b:=by obtain⟨h1,c⟩:=a5s h;exact⟨h1,c⟩
theorem b9A{lk:E1}{vars:List PV}:∀{rs:List (Nat×Option (Bool×Nat))} {l:List PV},a2P lk vars rs=some l→rs.length=l.length∧∀(i:Nat) r,rs[i]?=some r→∃v,l[i]?=some v∧a8c lk vars r=some v
 | [],l,h=>by simp only[a2P,s7]at h;subst h;exact⟨rfl,fun i r hr=>by simp at hr⟩
 |r::rs,l,h=>by
  simp only[a2P]at h;split at h
  . rename_i v vs h1 b;cases h;obtain⟨c,d⟩:=b9A b;refine⟨by simp[c],fun i x a=>?_⟩;cases i with
    |zero=>simp at a;subst a;exact⟨v,rfl,h1⟩
    |succ i=>exact d i x (by simpa using a)
  . cases h
theorem b9r{agg:Bool}{sz:Nat}(c:j8 G h w D v p)(d:a0w lk agg sz p=some r):∃a,v=.pointer (some a):=by
 cases p<;>(try (simp[a0w]at d;done))<;>(unfold D at c;unfold j8 at c)
 case ptr=>obtain⟨b,rfl,_⟩:=c;exact⟨_,rfl⟩
 case eptr=>obtain⟨b,f,rfl,_⟩:=c;exact⟨_,rfl⟩
 case nptr=>obtain⟨b,f,rfl,_⟩:=c;exact⟨_,rfl⟩
 case fptr=>obtain⟨b,f,rfl,_⟩:=PR.a3l.1 c;exact⟨_,rfl⟩
theorem c4l(c:j8 G h w D v p)(d:a6k lk n p=some r):∃a,v=.pointer (some a):=by
 cases p<;>simp only[a6k]at d<;>(try exact b9r c d)
 case eptr=>unfold D at c;unfold j8 at c;obtain⟨b,f,rfl,_⟩:=c;exact⟨_,rfl⟩
def a9p(tmps:Array Value):ResultVar→Sem Value
 | .tmp t=>pure (tmps.getD t undef)
 | .cell a t=>do loadVar t (←asAddr (tmps.getD a undef))
theorem c9z(fn:Func)(tmps:Array Value):results fn tmps=(do
 let vs ←fn.results.mapM (a9p tmps)
 pure (if h:vs.size=1 then vs[0]else .tuple vs)):=by
 unfold results;congr 2
def a9j(P:Program)(vs:List Nat):ResultVar→Option (Nat×Option (Bool×Nat)):=fun r=>match r with
 | .tmp t=>(vs.idxOf? t).map fun v=>(v,none)
 | .cell a t=>match vs.idxOf? a,a1E P t,I8 P t with
  |some v,some g,some s=>some (v,some (g,s))
  |_,_,_=>none
theorem c1t(hr:s6 B Z0 G h w)(z:X0 G h w vs vars a)(A:N4 (a9j P vs) fn.results.toList=some rs)(C:a2P (l8 h []) vars rs=some l):
 ∃us:Array Value,(fn.results.mapM (a9p a.tmps)).run P w=.ok us w∧us.size=l.length∧∀(i:Nat) p,l[i]?=some p→∃u,us[i]?=some u∧j8 G h w D u p:=by
 obtain⟨c1,c2⟩:=c4w A;obtain⟨l1,E⟩:=b9A C;have j:∀i,∃u,∀(hi:i<fn.results.size),(a9p a.tmps fn.results[i]).run P w=.ok u w∧∃p,l[i]?=some p∧j8 G h w D u p:=fun i=>by
  by_cases hi:i<fn.results.size
  . obtain⟨r,h1,b⟩:=c2 i fn.results[i] (by simp[hi]);obtain⟨p,o,c⟩:=E i r h1;have slot:∀{t k},vs.idxOf? t=some k→j8 G h w D (a.tmps.getD t undef) (vars.getD k .uu):=fun{t k} e=>by
     obtain⟨v,d,f⟩:=z k t (a0U e);rw[a3Z,d];exact f
    cases m:fn.results[i]with
    |tmp t=>
     rw[m]at b;simp only[a9j]at b;obtain⟨k,e,rfl⟩:=D0.1 b;simp only[a8c,s7]at c;exact⟨a.tmps.getD t undef,fun _=>⟨by rw[m];rfl,p,o,c▸slot e⟩⟩
    |cell q t=>
     rw[m]at b;simp only[a9j]at b;split at b
     . rename_i k g s e x hs;cases b;simp only[a8c]at c;have n:=slot e;obtain⟨u,d,f⟩:∃u,(Instr.loadAt t (a.tmps.getD q undef)).run P w=.ok u w∧j8 G h w D u p:=by
        cases g with
        |true=>exact b9e (P:=P) hr x hs n (by simpa using c)
        |false=>exact a7Y (P:=P) hr x hs n (by simpa using c)
       obtain⟨y,he⟩:∃y,a.tmps.getD q undef=.pointer (some y):=by
        cases g with
        |true=>exact c4l n (by simpa using c)
        |false=>exact b9r (agg:=false) n (by simpa using c)
       refine⟨u,fun _=>⟨?_,p,o,f⟩⟩;rw[he]at d;rw[m];simp only[a9p,he];exact d
     . cases b
  . exact⟨undef,fun h=>absurd h hi⟩
 refine⟨((List.range fn.results.size).map fun i=>(j i).choose).toArray,?_,?_,fun i p hp=>?_⟩
 . have:=b9B (P:=P) (w:=w) (F:=a9p a.tmps) fn.results.toList (fun i=>(j i).choose) fun i r hi=>by
    obtain⟨h1,b⟩:=B8.1 hi;have:=((j i).choose_spec (by simpa using h1)).1;rw[show fn.results[i]'(by simpa using h1)=r by simpa using b]at this;exact this
   rw[Array.mapM_eq_mapM_toList,map_eq_pure_bind,O3,this];simp
 . simp;rw[←l1,←c1];simp
 . have hi:i<fn.results.size:=by
    have:=(B8.1 hp).1;rw[←l1,←c1]at this;simpa using this
   obtain⟨_,H,d,f⟩:=(j i).choose_spec hi;rw[hp]at d;cases d;exact⟨_,by simp[hi],f⟩
theorem a9l{F:Fence}{n m:Nat}{fn:Func}{tmps:Array Value}{R:Ending→World→Prop}:∀(Ds:List Nat) (w:World),Ds.Nodup→(∀D∈Ds,m≤D∧w.heap[D]?=some (.deferred (some [])))→(∀w',Y7 m w w'→LeavesIn F n P fn tmps R [] .returning w')→
 LeavesInM F n P fn tmps R (Ds.map fun D=>{target:=.collected D,args:= #[]}) .returning w
 | [],w,_,_,h=>h w (Y7.refl _ _)
 |D::Ds,w,d,a,h=>by obtain⟨h1,f⟩:=a4E.1 d;obtain⟨g,c⟩:=a D l5;refine⟨l5,.inl ⟨D,_,rfl,run_takeDeferred c,?_⟩⟩;have hs:Y7 m w (w.putObj D (.deferred none)):=Y7.put c rfl g;refine a9l Ds _ f (fun D' b=>⟨(a D' (by simp[b])).1,?_⟩) fun w' i=>h w' (hs.trans i);rw[b4K fun e=>h1 (by rw[←e];exact b)];exact(a D' (by simp[b])).2
theorem a9Q(hr:s6 B Z0 G h w)(d:X0 G h w vs vars a)(f:N4 (a9j P vs) fn.results.toList=some rs)(g:a2P (l8 h []) vars rs=some l):
 ∃u,(results fn a.tmps).run P w=.ok u w∧j8 G h w (D+1) u (a0i l)∧((∀p,l=[p]→j8 G h w D u p)∧(l.length≠1→∃us:Array Value,u=.tuple us∧us.size=l.length∧∀(i:Nat) p,l[i]?=some p→∃u,us[i]?=some u∧j8 G h w D u p)):=by
 obtain⟨us,r1,r2,r3⟩:=c1t (P:=P) (fn:=fn) hr d f g;refine⟨if h:us.size=1 then us[0]else .tuple us,by rw[c9z,O3,r1];rfl,?_⟩;by_cases h1:us.size=1
 . rw[dif_pos h1];obtain⟨p,rfl⟩:∃p,l=[p]:=a9E.1 i9;obtain⟨u,b,c⟩:=r3 0 p rfl;rw[Array.getElem?_eq_getElem i9]at b;cases b;exact⟨c.up,fun m e=>by cases e;exact c,fun j=>absurd rfl j⟩
 . rw[dif_neg h1];have k:a0i l=.tup l:=by
    match l,r2 with
    | [],_=>rfl
    | [p],r2=>exact absurd r2 h1
    |_::_::_,_=>rfl
   refine⟨?_,fun p e=>by subst e;exact absurd r2 h1,fun _=>⟨us,rfl,r2,r3⟩⟩;rw[k];unfold j8;exact⟨us,rfl,r2,r3⟩
theorem b9X{N:Nat}{szs:List Nat}{Z:Nat→Prop}(t:N4 (a9j P vs) fn.results.toList=some rs)(hi:O2 w.heap.size Z (N2.plain w) vs N vars h a w')
 (y:a2P (l8 h []) vars rs=some l) (z:a3f (a8P (a0i l))=true) (A:a3S szs 0 ((a0k (a0i l)).flatMap l9)=true):
 LeavesInM (fz none) n P fn a.tmps (fun e w'=>∃v G,e=.returned v∧Bl w.heap.size w w'∧s6 w.heap.size Z G (a0M szs (rvV (l8 h []) (a0i l))) w'∧j8 G (a0M szs (rvV (l8 h []) (a0i l))) w' D v (Z9 (a1b szs) (fun _=>1) (rvV (l8 h []) (a0i l)))) a.defers .returning w':=by
 obtain⟨G,j,B,T,⟨Ds,d1,d2,d3⟩,C⟩:=hi;rw[d2];refine a9l (m:=w.heap.size) Ds w' d1 d3 fun o hs=>?_;obtain⟨r,E⟩:=j.cells (w':=o) (by rw[hs.size];exact m9 _) hs.cells;have F:X0 G h o vs vars a:=fun k s H=>by obtain⟨v,h1,I⟩:=B k s H;exact⟨v,h1,I.ext E⟩
 have J:=(N2.plain w).shut j C hs;obtain⟨u,K,_,L,d⟩:=a9Q (P:=P) (fn:=fn) r F t y;obtain⟨M,b⟩:=c4M r (q:=a0i l) (szs:=szs) z A;refine⟨u,K,_,_,rfl,J,M,?_⟩;by_cases h1:l.length=1
 . obtain⟨p,rfl⟩:∃p,l=[p]:=a9E.1 h1;have d:=L p rfl;simp only[a0i]at b⊢;by_cases f:∃vs,p=.tup vs
   . obtain⟨vs,rfl⟩:=f;obtain⟨ws,hw,hs,O⟩:=a8l d;rw[hw];simp only[rvV,Z9];unfold D;unfold j8;refine⟨ws,rfl,by rw[a9M];simpa using hs,b3b (cells:=B9 (.tup vs)) b 4 (q:=0) (U:=fun i=>ws[i]?) (fun i x c=>by rw[V9];exact c) O⟩
   . have g:rvV (l8 h []) p=rvE (l8 h []) p:=by
      cases p<;>first|rfl|exact absurd ⟨_,rfl⟩ f
     have Q:B9 p=l9 p:=by cases p<;>first|(exact absurd ⟨_,rfl⟩ f)|simp[B9,a0k]
     have R:Z9 (a1b szs) (fun _=>1) (rvE (l8 h []) p)=a2h (a1b szs) (fun _=>1) 0 (rvE (l8 h []) p):=by
      rcases a9a (l8 h []) p with⟨cs,rfl⟩|⟨V,e⟩
      . rfl
      . rw[e];have:=(a8V (l8 h []) p).2;cases S:rvC (l8 h []) p<;>first|rfl|exact absurd S (this _)
     rw[g]at b⊢;rw[R];exact b9a (cells:=B9 p) (q:=0) b (fun i x c=>by rw[V9,Q];exact c) d 5
 . obtain⟨us,hu,r2,r3⟩:=d h1;have g:a0i l=.tup l:=by
    match l,h1 with
    | [],_=>rfl
    | [p],h1=>exact absurd rfl h1
    |_::_::_,_=>rfl
   rw[g]at b⊢;rw[hu];simp only[rvV,Z9]at b⊢;unfold D;unfold j8;refine⟨us,rfl,by rw[a9M];simpa using r2,b3b (cells:=B9 (.tup l)) b 4 (q:=0) (U:=fun i=>us[i]?) (fun i x c=>by rw[V9];exact c) r3⟩
theorem c7H{N:Nat}(j:vs.all (Nat.blt · N)=true){Z:Nat→Prop}(l:∀b,Z b→W4 w b){c:Array Value}{args:List PV}(d:J4 (j8 (G0 Z) [] w D) c args)(hlen:args.length≤N):
 O2 w.heap.size Z (N2.plain w) vs N (vs.map fun s=>args.getD s .uu) (List.replicate n (0,.dead)) {tmps:=c++Array.replicate (N-c.size) undef,defers:=[]} w:=by
 obtain⟨t,d⟩:=d;have m:Ext (G0 Z) [] w (G0 Z) (List.replicate n (0,Ob.dead)) w:=⟨fun _ x=>x,fun _ _=>rfl,fun k gn ob e=>by simp at e⟩
 have p:∀{i g:Nat} {o:Ob},(List.replicate n (0,Ob.dead))[i]?=some (g,o)→o=.dead:=fun f=>by have:=b1I (D4 f);cases this;rfl
 have q:s6 w.heap.size Z (G0 Z) (List.replicate n (0,Ob.dead)) w:=
  ⟨m9 _,fun b hb=>.inl hb,l,fun _ a=>a.elim,fun _ _ _ _ _ _ a=>a.elim,fun _ _ _ _ _ _ a=>a.elim,fun _ _ a=>a.elim,fun i g o f=>by rw[p f];trivial⟩
 refine⟨G0 Z,q,fun i s hs=>?_,I2,a0u.nil,Bl.refl _ _⟩;have v:s<N:=by simpa[a1K]using B0.1 j s (D4 hs)
 rw[u9,H6,hs];simp only[a2o,a4F];by_cases h:s<args.length
 . obtain⟨u,h1,r⟩:=d s _ (m7 h);refine⟨u,?_,?_⟩
   . rw[a2Y i9];exact h1
   . rw[u9,m7 h];exact r.ext m
 . refine⟨undef,?_,?_⟩
   . rw[a5d i9,a7O,if_pos i9]
   . rw[u9,a0d i9];exact K9
def N2.inner(B:Nat)(G0:Gh)(h0:l7)(w0:World)(a:B≤w0.heap.size):N2 B:=
 ⟨w0.heap.size,fun _ G h w=>Ext G0 h0 w0 G h w∧Bl B w0 w,fun h=>h.2.size,fun p x b=>⟨p.1.trans x,p.2.trans b⟩,fun r p s=>⟨p.1.trans (r.cells (by rw[s.size];exact m9 _) s.cells).2,p.2.shut a s⟩⟩
def a3i:PV→Bool
 | .agg cs=>cs.all one
 |c=>one c
theorem b5d{m:Nat}{u:Value}(b:a3i p=true)(a:j8 G h w n u p):j8 G h w (m+2) u p:=by
 cases p
 case agg cs=>
  cases n with
  |zero=>unfold j8 at a;exact a.elim
  |succ n=>
   unfold j8 at a⊢;obtain⟨vs,h1,c⟩:=a;exact⟨vs,h1,a6T c b (Nat.succ_pos _)⟩
 all_goals exact one_cell b a (Nat.succ_pos _)
def b1e(rs:List (Nat×Option (Bool×Nat)))(r:PV)(h0:l7)(ws:List (Nat×Row)):J1:=fun e vs h=>
 (match e with| .exit _=>False|_=>True)∧∃l,a2P (l8 h []) vs rs=some l∧(l.length==1||l.all a3i)=true∧a0i l=r∧h=p8 h0 ws
theorem b5c(hm:P.follows .mixedOrders=true){f:FuncId}{off:Nat}{X:u7}(b:O1 P f off=some X){first args cap:List PV}{h0:l7}{ws:List (Nat×Row)}(hlen:(first++args++cap).length≤X.ntmps)(K:(first.all one&&cap.all one)=true)
 (L:G8 (fns P) X.body (b1e X.results r h0 ws) (X.vars.map fun s=>(first++args++cap).getD s .uu) h0):FI P (.fn (.func f) first cap) args h0 r ws:=by
 unfold O1 at b;dsimp only at b;split at b
 . cases b
 . rename_i fn A;split at b
   . cases b
   . rename_i c C;split at b
     . rename_i x k rs M N;split at b
       . rename_i O;obtain⟨Q,R,S,ak⟩:=O;cases b;refine⟨f,first,cap,rfl,by unfold a1U;rw[A];simpa[C]using Q,K,fun B Z0 G0 w t y z hr j q E=>?_⟩;refine(a4y (ρ:=none) (n:=0)).1 (callsIn_of_wp_marks A C trivial ?_);have T:J4 (j8 G0 h0 w D) (t++y++z) (first++args++cap):=by
          refine⟨by simp[j.1,q.1,E.1],fun i p hp=>?_⟩;by_cases h1:i<first.length
          . rw[a3t,a1k h1]at hp;obtain⟨u,d,g⟩:=j.2 i p hp;have:=(a2I.1 d).1;exact⟨u,by rw[a6K,a2Y this];exact d,g⟩
          . rw[a3t,a3X i9]at hp;by_cases o:i-first.length<args.length
            . rw[a1k o]at hp;obtain⟨u,d,g⟩:=q.2 _ p hp;have:=(a2I.1 d).1;refine⟨u,?_,g⟩;rw[a6K,a5d (by rw[j.1];omega),j.1,a2Y this];exact d
            . rw[a3X i9]at hp;obtain⟨u,d,g⟩:=E.2 _ p hp;refine⟨u,?_,g⟩;rw[a6K,a5d (by rw[j.1];omega),j.1,a5d (by rw[q.1];omega),q.1];exact d
         obtain⟨al,U⟩:=T;have hi:O2 B Z0 (N2.inner B G0 h0 w hr.base) (varsOf fn c) fn.ntmps ((varsOf fn c).map fun s=>(first++args++cap).getD s .uu) h0 {tmps:=(t++y++z)++Array.replicate (fn.ntmps-(t++y++z).size) undef,defers:=[]} w:=by
          have am:(first++args++cap).length≤fn.ntmps:=hlen;refine⟨G0,hr,fun i s hs=>?_,by rw[a6J,Array.size_replicate];omega,a0u.nil,Ext.refl,Bl.refl _ _⟩;have an:s<fn.ntmps:=(by simpa[a1K]using B0.1 S s (D4 hs));rw[u9,H6,hs];simp only[a2o,a4F];by_cases F:s<(first++args++cap).length
          . obtain⟨u,h1,o⟩:=U s _ (m7 F);refine⟨u,?_,?_⟩
            . rw[a2Y i9];exact h1
            . rw[u9,m7 F];exact o
          . refine⟨undef,?_,?_⟩
            . rw[a5d i9,a7O,if_pos i9]
            . rw[u9,a0d i9];exact K9
         refine c7l hm (a5n R) c off k x M _ _ _ _ _ _ L hi fun e vars h a w' V he=>?_;obtain⟨W,l,Y,Z,rfl,rfl⟩:=he;have key:LeavesInM (fz none) 0 P fn a.tmps (fun e w'=>∃u G',e=.returned u∧s6 B Z0 G' (p8 h0 ws) w'∧Ext G0 h0 w G' (p8 h0 ws) w'∧j8 G' (p8 h0 ws) w' D u (a0i l)∧Bl B w w') a.defers .returning w':=by
          obtain⟨G,H,aa,ao,⟨Ds,d1,d2,d3⟩,ab⟩:=V;rw[d2];refine a9l (m:=w.heap.size) Ds w' d1 d3 fun I hs=>?_;obtain⟨J,ac⟩:=H.cells (w':=I) (by rw[hs.size];exact m9 _) hs.cells;have ad:X0 G (p8 h0 ws) I (varsOf fn c) vars a:=fun k s ae=>by obtain⟨v,h1,o⟩:=aa k s ae;exact⟨v,h1,o.ext ac⟩
          obtain⟨af,ag⟩:=(N2.inner B G0 h0 w hr.base).shut H ab hs;obtain⟨u,ah,_,d,g⟩:=a9Q (P:=P) (fn:=fn) J ad N Y;refine⟨u,ah,u,G,rfl,J,af,?_,ag⟩;by_cases h1:l.length=1
          . obtain⟨p,rfl⟩:∃p,l=[p]:=a9E.1 h1;exact d p rfl
          . obtain⟨us,hu,r2,r3⟩:=g h1;have ai:a0i l=.tup l:=by
             match l,h1 with
             | [],_=>rfl
             | [p],h1=>exact absurd rfl h1
             |_::_::_,_=>rfl
            rw[ai,hu];unfold D;unfold j8;refine⟨us,rfl,r2,fun i p hp=>?_⟩;obtain⟨u,g1,g2⟩:=r3 i p hp;have aj:l.all a3i=true:=(by simpa[h1]using Z);exact⟨u,g1,b5d (B0.1 aj p (D4 hp)) g2⟩
         cases e with
         |normal=>exact key
         |ret=>exact key
         |exit id=>exact W.elim
       . cases b
     . cases b
end
end
section
variable{ks:List Nat}{c0:Nat}{ob:Ob}
theorem b3n{f:Nat→Row}:∀{n p i:Nat},(a5U f n p)[i]?=if i<n then some (f (p+i))else none
 |0,p,i=>by simp[a5U]
 |n+1,p,0=>by simp[a5U]
 |n+1,p,i+1=>by
  simp only[a5U,List.getElem?_cons_succ,b3n]
  grind
theorem b9x{live ks:List Nat}{c0:Nat}{h:l7}:∀{vs:List PV} {i k:Nat},(sVs live ks c0 h i vs).getD k .uu=.uu∨(sVs live ks c0 h i vs).getD k .uu=a8q ks c0 h (vs.getD k .uu)
 | [],i,k=>.inl (by simp[sVs])
 |v::vs,i,0=>by
  simp only[sVs,List.getD_cons_zero]
  grind
 |v::vs,i,k+1=>by simp only[sVs,List.getD_cons_succ];exact b9x
def sJ(ks:List Nat)(c0 p:Nat):Option Nat:=if p<c0 then none else ks[p-c0]?
section
variable{P:Program}{B:Nat}{Z0:Nat→Prop}{G G':Gh}{h h':l7}{w w':World}
theorem b3x{sz ver:Nat}{fr:Bool}{es:List PV}(he:a0q ks c0 h ob=.arr sz ver fr es):∃a,ob=.arr sz a fr es∧es.all D5=true∧ver=0:=by
 cases ob with
 |dead=>cases he
 |var cs=>simp only[a0q]at he;split at he<;>cases he
 |mp f u v=>simp only[a0q]at he;split at he<;>cases he
 |arr s v f e=>
  simp only[a0q]at he;split at he
  . grind
  . cases he
theorem b9d{cs:List PV}(he:a0q ks c0 h ob=.var cs):∃a,ob=.var a∧cs=a.map (ren ks c0 h)∧cs.all one=true:=by
 cases ob with
 |dead=>cases he
 |arr s v f e=>simp only[a0q]at he;split at he<;>cases he
 |mp f u v=>simp only[a0q]at he;split at he<;>cases he
 |var c=>
  simp only[a0q]at he;split at he
  . grind
  . cases he
theorem b6v{fr:Bool}{us cs:List PV}(he:a0q ks c0 h ob=.mp fr us cs):ob=.mp fr us cs∧cs.all mvS=true:=by
 cases ob with
 |dead=>cases he
 |var cs=>simp only[a0q]at he;split at he<;>cases he
 |arr s v f e=>simp only[a0q]at he;split at he<;>cases he
 |mp f u v=>
  simp only[a0q]at he;split at he
  . rename_i a;cases he;exact⟨rfl,a⟩
  . cases he
theorem d0h{u:Value}{c:PV}(f:∀ns,c≠ .uslc ns)(a:mvS c=true)(b:j8 G h w D u c)(g:G'.Z=G.Z):j8 G' h' w D u c:=by
 by_cases e:c=.nils
 . subst e;obtain rfl:=a0v b;exact a4T
 by_cases hp:A9 c=true
 . have h1:=a4f hp b;rw[←g]at h1;exact a1H (a3U hp) h1
 . have d:fn0 c=true:=by
    cases c<;>simp[mvS,I5,hp]at a e f⊢ <;>assumption
   unfold fn0 at d;split at d
   . obtain⟨vs,us,rfl,h1,j⟩:=a9g b;unfold D;unfold j8;exact⟨vs,us,rfl,⟨h1.1,fun i c a=>by simp at a⟩,⟨j.1,fun i c a=>by simp at a⟩⟩
   . cases d
theorem c0Y(hr:s6 B Z0 G h w)(ab:sOk ks c0 h=true):
 (∀{n:Nat} {u:Value} {c:PV},j8 G h w n u c→j8 (G.out (sJ ks c0)) (a3E ks c0 h) w n u (ren ks c0 h c))∧s6 B Z0 (G.out (sJ ks c0)) (a3E ks c0 h) w:=by
 unfold sOk at ab;simp only[G4,Nat.ble_eq]at ab;obtain⟨ac,hlen⟩:=ab;have ac:=a5n ac;have ad:∀{p k},sJ ks c0 p=some k→c0≤p∧ks[p-c0]?=some k:=fun{p k} hj=>by
  unfold sJ at hj;split at hj
  . cases hj
  . exact⟨i9,hj⟩
 have Z:∀{i k},ks[i]?=some k→sJ ks c0 (c0+i)=some k:=fun{i k} hi=>by unfold sJ;rw[if_neg i9,show c0+i-c0=i by omega];exact hi
 have aa:∀{p k},sJ ks c0 p=some k→(a3E ks c0 h)[p]?=some (1,a0q ks c0 h (h.getD k (0,.dead)).2):=fun{p k} hj=>by obtain⟨h1,F⟩:=ad hj;have:=(B8.1 F).1;unfold a3E;rw[b3n,if_pos i9,V9];unfold b0e;rw[if_neg i9,F]
 have ae:∀{p r},(a3E ks c0 h)[p]?=some r→r.2=.dead∨∃k ob g0,sJ ks c0 p=some k∧h[k]?=some (g0,ob)∧r=(1,a0q ks c0 h ob):=fun{p r} hp=>by
  unfold a3E at hp;rw[b3n]at hp;split at hp
  . cases hp;rw[V9];unfold b0e;split
    . exact .inl rfl
    . rename_i az;cases A:ks[p-c0]? with
      |none=>exact .inl rfl
      |some k=>
       cases af:h[k]? with
       |none=>left;simp[u9,af,a0q]
       |some r0=>
        obtain⟨g0,ob⟩:=r0;refine .inr ⟨k,ob,g0,?_,af,by simp[u9,af]⟩;unfold sJ;rw[if_neg az];exact A
  . cases hp
 have E:∀{p k y},sJ ks c0 p=some k→(G.out (sJ ks c0)).β (p,y)=G.β (k,y)∧((G.out (sJ ks c0)).R (p,y)↔G.R (k,y))∧(G.out (sJ ks c0)).γ (p,y)=G.γ (k,y)∧(G.out (sJ ks c0)).σ (p,y)=G.σ (k,y):=fun{p k y} hj=>by refine⟨?_,?_,?_,?_⟩<;>simp only[Gh.out,hj]
 have P:∀{p y},(G.out (sJ ks c0)).R (p,y)→∃k,sJ ks c0 p=some k:=fun{p y} x=>by
  cases hj:sJ ks c0 p with
  |some k=>exact⟨k,rfl⟩
  |none=>simp only[Gh.out,hj]at x
 have au:∀{n:Nat} {u:Value} {c:PV},j8 G h w n u c→j8 (G.out (sJ ks c0)) (a3E ks c0 h) w n u (ren ks c0 h c):=by
  intro n u c d;cases c<;>simp only[ren]<;>(try exact K9)
  case bool=>obtain rfl:=a1f d;exact a1l
  case int=>obtain rfl:=a0f d;exact a0Q
  case str=>obtain rfl:=a2W d;exact a5u
  case nils=>obtain rfl:=a0v d;exact a4T
  case lit=>cases n<;>(unfold j8 at d⊢;exact d)
  case slc es=>exact a0T (a3q (G:=G) (h:=h) d)
  case N3 us cs=>exact a6W (a8I (G:=G) (h:=h) d)
  case fptr cs=>exact a4R (a9h (G:=G) (h:=h) d)
  case mapv k g=>
   cases hi:ks.idxOf? k with
   |none=>exact K9
   |some i=>
    have hj:=Z (a0U hi);have z:=j8.cell (m:=D) (by grind) d;refine j8.cell (n:=D) (by grind) ?_;unfold D at z⊢;unfold j8 at z⊢;obtain⟨b,K,gn,ob,ag,ah,L⟩:=z;have H:h.getD k (0,.dead)=(gn,ob):=(by grind);refine⟨b,K,_,_,aa hj,?_,fun e fr us cs he=>?_⟩
    . split<;>omega
    . have q:gn=g:=by
       rw[H]at e;by_cases q:gn=g
       . exact q
       . simp[q]at e
      rw[H]at he;obtain⟨h1,_⟩:=b6v he;obtain⟨t,_⟩:=E (y:=none) hj;rw[show(G.out (sJ ks c0)).β (root (c0+i))=G.β (root k)from t];exact L q _ _ _ h1
  case own k g aA s o l=>
   cases hi:ks.idxOf? k with
   |none=>exact K9
   |some i=>
    have hj:=Z (a0U hi);have z:=j8.cell (m:=D) (by grind) d;refine j8.cell (n:=D) (by grind) ?_;unfold D at z⊢;unfold j8 at z⊢;obtain⟨a,c,K,aB,aC,aD,gn,ob,ag,ah,L⟩:=z;have H:h.getD k (0,.dead)=(gn,ob):=(by grind);refine⟨a,c,K,aB,aC,aD,_,_,aa hj,?_,fun e sz ver fr es he=>?_⟩
    . split<;>omega
    . have q:gn=g:=by
       rw[H]at e;by_cases q:gn=g
       . exact q
       . simp[q]at e
      rw[H]at he;obtain⟨av,h1,_,_⟩:=b3x he;obtain⟨ai,aj⟩:=L q _ _ _ _ h1;refine⟨ai,fun M=>?_⟩;obtain⟨ak,al,am⟩:=aj M;obtain⟨t,a2,a3,a4⟩:=E (y:=none) hj;rw[show(G.out (sJ ks c0)).β (root (c0+i))=G.β (root k)from t,show(G.out (sJ ks c0)).γ (root (c0+i))=G.γ (root k)from a3];exact⟨ak,fun x=>al (a2.1 x),fun x=>am fun y=>x (a2.2 y)⟩
  case eptr k g aA s aW aX=>
   cases hi:ks.idxOf? k with
   |none=>exact K9
   |some i=>
    have hj:=Z (a0U hi);have z:=j8.cell (m:=D) (by grind) d;refine j8.cell (n:=D) (by grind) ?_;unfold D at z⊢;unfold j8 at z⊢;obtain⟨b,f,K,gn,ob,ag,ah,L⟩:=z;have H:h.getD k (0,.dead)=(gn,ob):=(by grind);refine⟨b,f,K,_,_,aa hj,?_,fun e sz ver fr es he=>?_⟩
    . split<;>omega
    . have q:gn=g:=by
       rw[H]at e;by_cases q:gn=g
       . exact q
       . simp[q]at e
      rw[H]at he;obtain⟨av,h1,_,_⟩:=b3x he;obtain⟨ai,aj⟩:=L q _ _ _ _ h1;refine⟨ai,fun M=>?_⟩;obtain⟨ak,al,am⟩:=aj M;obtain⟨t,a2,a3,a4⟩:=E (y:=none) hj;rw[show(G.out (sJ ks c0)).β (root (c0+i))=G.β (root k)from t];exact⟨ak,al,am⟩
  case ptr k g o=>
   cases hi:ks.idxOf? k with
   |none=>exact K9
   |some i=>
    have hj:=Z (a0U hi);have z:=j8.cell (m:=D) (by grind) d;refine j8.cell (n:=D) (by grind) ?_;unfold D at z⊢;unfold j8 at z⊢;obtain⟨b,K,gn,ob,ag,ah,L⟩:=z;have H:h.getD k (0,.dead)=(gn,ob):=(by grind);refine⟨b,K,_,_,aa hj,?_,fun e cs he=>?_⟩
    . split<;>omega
    . have q:gn=g:=by
       rw[H]at e;by_cases q:gn=g
       . exact q
       . simp[q]at e
      rw[H]at he;obtain⟨aE,h1,_,_⟩:=b9d he;obtain⟨t,_⟩:=E (y:=none) hj;rw[show(G.out (sJ ks c0)).β (root (c0+i))=G.β (root k)from t];exact L q _ h1
 refine⟨au,hr.base,hr.zo,hr.zb,?_,?_,?_,?_,?_⟩
 . rintro⟨p,y⟩ x;obtain⟨k,A⟩:=P x;obtain⟨t,a2,_⟩:=E (y:=y) A;rw[t];exact hr.lv _ (a2.1 x)
 . rintro p g o Q I y x;obtain⟨k,A⟩:=P x;obtain⟨t,a2,_⟩:=E (y:=y) A;rw[t];rcases ae Q with h1|⟨aF,ob,g0,h1,F,N⟩
   . simp only at h1;subst h1;cases I
   . rw[A]at h1;cases h1;cases N;refine hr.nz k g0 ob F ?_ y (a2.1 x);cases ob with
     |dead=>cases I
     |var cs=>rfl
     |arr s v f e=>simp only[a0q]at I;split at I<;>first|exact I|cases I
     |mp f u v=>simp only[a0q]at I;split at I<;>first|exact I|cases I
 . intro p g o Q C y x;obtain⟨k,A⟩:=P x;obtain⟨t,a2,_⟩:=E (y:=y) A;rw[t];rcases ae Q with h1|⟨aF,ob,g0,h1,F,N⟩
   . simp only at h1;subst h1;cases C
   . rw[A]at h1;cases h1;cases N;refine hr.fz k g0 ob F ?_ y (a2.1 x);cases ob with
     |dead=>cases C
     |var cs=>simp only[a0q]at C;split at C<;>cases C
     |arr s v f e=>simp only[a0q]at C;split at C<;>first|exact C|cases C
     |mp f u v=>simp only[a0q]at C;split at C<;>first|exact C|cases C
 . rintro⟨aG,aH⟩ ⟨aI,aJ⟩ h1 F he;obtain⟨aY,aw⟩:=P h1;obtain⟨aZ,ax⟩:=P F;obtain⟨t,a2,_⟩:=E (y:=aH) aw;obtain⟨R,S,_⟩:=E (y:=aJ) ax;have:=hr.inj _ _ (a2.1 h1) (S.1 F) (by rw[←t,←R];exact he);simp only[s9]at this;obtain⟨rfl,rfl⟩:=this;obtain⟨c1,c2⟩:=ad aw;obtain⟨d1,d2⟩:=ad ax;have:=b4w ac c2 d2;rw[show aG=aI by omega]
 . rintro p g o Q;rcases ae Q with h1|⟨k,ob,g0,A,F,N⟩
   . simp only at h1;subst h1;trivial
   . simp only[s9]at N;obtain⟨rfl,rfl⟩:=N;have O:=hr.ob k _ _ F;obtain⟨t,a2,a3,a4⟩:=E (y:=none) A;cases an:a0q ks c0 h ob with
     |dead=>trivial
     |mp fr us cs=>
      obtain⟨rfl,aK⟩:=b6v an;unfold F9 at O⊢;rw[show(G.out (sJ ks c0)).β (root p)=G.β (root k)from t];obtain⟨U,V,es,aL,W,X,Y⟩:=O;refine⟨a2.2 U,V,es,aL,W,X,fun i c d=>?_⟩;obtain⟨e,aM,M⟩:=Y i c d;refine⟨e,aM,?_⟩;by_cases hu:∃ns,c=.uslc ns
      . obtain⟨ns,rfl⟩:=hu;unfold a0n O8 at M⊢;obtain⟨R,S,ao,ap⟩:=E (y:=some (i,0)) A;rw[R,S,ao,ap];exact M
      . have aq:∀ns,c≠ .uslc ns:=fun ns e=>hu ⟨ns,e⟩;have aN:=B0.1 aK c (D4 d);exact(a4W aq).2 (d0h aq aN ((a4W aq).1 M) rfl)
     |var cs=>
      obtain⟨aE,rfl,rfl,aO⟩:=b9d an;unfold F9 at O⊢;obtain⟨U,us,T,V,W,X⟩:=O;refine⟨a2.2 U,us,T,by rw[show(G.out (sJ ks c0)).β (root p)=G.β (root k)from t];exact V,by simpa using W,fun i c d=>?_⟩;rw[H6]at d;obtain⟨c1,ay,rfl⟩:=D0.1 d;obtain⟨u,Y,ar⟩:=X i c1 ay;exact⟨u,Y,B0.1 aO _ (E5.2 ⟨c1,D4 ay,rfl⟩),au ar.2⟩
     |arr sz ver fr es=>
      obtain⟨av,rfl,aP,rfl⟩:=b3x an;unfold F9 at O⊢;rw[show(G.out (sJ ks c0)).β (root p)=G.β (root k)from t,show(G.out (sJ ks c0)).γ (root p)=G.γ (root k)from a3];obtain⟨U,V,W,X,Y⟩:=O;refine⟨U,V,W,fun x=>?_,fun x=>Y fun y=>x (a2.2 y)⟩;obtain⟨us,T,ar,aQ,aR⟩:=X (a2.1 x);refine⟨us,T,ar,aQ,fun i e he=>?_⟩;obtain⟨aS,aT⟩:=aR i e he;refine⟨aS,fun j c d=>?_⟩;obtain⟨u,aU,J⟩:=aT j c d;refine⟨u,aU,?_⟩;have aV:(A9 c||I5 c)=true:=B0.1 (show(l9 e).all (fun c=>A9 c||I5 c)=true from B0.1 aP e (D4 he)) c (D4 d);cases c
      case uslc ns=>
       unfold H4 O8 at J⊢;obtain⟨R,S,ao,ap⟩:=E (y:=some (i,j)) A;rw[R,S,ao,ap];exact J
      case nils=>
       unfold H4 at J⊢;obtain rfl:=a0v J.2;exact⟨rfl,a4T⟩
      all_goals
       unfold H4 at J⊢;exact⟨J.1,a1H J.1 (a4f (G:=G) (h:=h) (by simpa[I5]using aV) J.2)⟩
theorem c8Z(hr:s6 B Z0 G h w)(d:sOk ks c0 h=true){u:Value}{c:PV}(a:j8 G h w D u c):j8 (G.out (sJ ks c0)) (a3E ks c0 h) w D u (a8q ks c0 h c):=by
 obtain⟨e,_⟩:=c0Y hr d;by_cases b:∃cs,c=.agg cs
 . obtain⟨cs,rfl⟩:=b;obtain⟨vs,rfl,h1,f⟩:=a5L a;refine a5W ⟨by simpa using h1,fun i x g=>?_⟩
   grind
 . have:a8q ks c0 h c=ren ks c0 h c:=by
    cases c<;>first|rfl|exact absurd ⟨_,rfl⟩ b
   rw[this];exact e a
theorem c2X{W0:N2 B}{vs:List Nat}{N:Nat}{vars:List PV}{a:Act}(d:∀{g:PV} {G:Gh} {h:l7} {f:PV} {G':Gh} {h':l7} {w:World},W0.psi g G h w→W0.psi f G' h' w)(hi:O2 B Z0 W0 vs N vars h a w){live:List Nat}(b:sOk ks c0 h=true):O2 B Z0 W0 vs N (sVs live ks c0 h 0 vars) (a3E ks c0 h) a w:=by
 obtain⟨G,c,j,l,m,n⟩:=hi;refine⟨_,(c0Y c b).2,fun k s hs=>?_,l,m,d n⟩;obtain⟨v,h1,o⟩:=j k s hs;refine⟨v,h1,?_⟩;rcases b9x (live:=live) (ks:=ks) (c0:=c0) (h:=h) (vs:=vars) (i:=0) (k:=k)with e|e
 . rw[e];exact K9
 . rw[e];exact c8Z c b o
end
section
variable{P:Program}{B:Nat}{Z0:Nat→Prop}{W0:N2 B}{vs:List Nat}{N:Nat}{vars:List PV}{h:l7}{a:Act}{w:World}
theorem b9F{nn:Nat}(hm:P.follows .mixedOrders=true)(v:∀{g z:PV} {G:Gh} {h:l7} {w:World},W0.psi g G h w→W0.psi z G h w)(F:vs.Nodup):∀(c:Code) (k u:Nat) (x:C7),(a2g x=true∨∀{g:PV} {G:Gh} {h:l7} {z:PV} {G':Gh} {h':l7} {w:World},W0.psi g G h w→W0.psi z G' h' w)→E9 P vs N k c=some (strip x,u)→∀(Q':J1) (Q:Exit→Act→World→Prop) (vars:List PV) (h:l7) (a:Act) (w:World),
 G8 (fns P) x Q' vars h→O2 B Z0 W0 vs N vars h a w→a9R B Z0 W0 vs N Q' Q→c.wpIn (fz none) nn P Q a w:=by
 intro c
 induction c with
 |skip=>
  intro k u x o f Q' Q vars h a w j hi m;have hp:=a3y v j hi;clear j hi;obtain⟨x,vars,h,r,s,⟨q,p⟩,j,hi⟩:=hp;rw[←q]at f;rw[←p]at o;clear p;simp only[E9,s7,s9]at f;obtain⟨f,rfl⟩:=f;obtain rfl:=b9u r s f.symm;exact wpIn_skip (m .normal _ _ _ _ hi j)
 |label l=>
  intro k u x o f Q' Q vars h a w j hi m;have hp:=a3y v j hi;clear j hi;obtain⟨x,vars,h,r,s,⟨q,p⟩,j,hi⟩:=hp;rw[←q]at f;rw[←p]at o;clear p;simp only[E9,s7,s9]at f;obtain⟨f,rfl⟩:=f;obtain rfl:=b9u r s f.symm;exact wpIn_label (m .normal _ _ _ _ hi j)
 |exit id=>
  intro k u x o f Q' Q vars h a w j hi m;have hp:=a3y v j hi;clear j hi;obtain⟨x,vars,h,r,s,⟨q,p⟩,j,hi⟩:=hp;rw[←q]at f;rw[←p]at o;clear p;simp only[E9,s7,s9]at f;obtain⟨f,rfl⟩:=f;obtain rfl:=c6V r s f.symm;exact wpIn_exit (m (.exit id) _ _ _ _ hi j)
 |ret=>
  intro k u x o f Q' Q vars h a w j hi m;have hp:=a3y v j hi;clear j hi;obtain⟨x,vars,h,r,s,⟨q,p⟩,j,hi⟩:=hp;rw[←q]at f;rw[←p]at o;clear p;simp only[E9,s7,s9]at f;obtain⟨f,rfl⟩:=f;obtain rfl:=c6w r s f.symm;exact wpIn_ret (m .ret _ _ _ _ hi j)
 |region id ops d=>
  intro k u x o f Q' Q vars h a w j hi m;have hp:=a3y v j hi;clear j hi;obtain⟨x,vars,h,r,s,⟨q,p⟩,j,hi⟩:=hp;rw[←q]at f;rw[←p]at o;clear p;simp only[E9]at f;split at f
  . rename_i xs A L;simp only[s7,s9]at f;obtain⟨f,rfl⟩:=f;obtain rfl:=c5K r s f.symm;obtain⟨M,j⟩:=j;rw[show ops=ops.toList.toArray by simp];cases d with
    |false=>exact b2n rfl rfl a6a F L M j (fun st a w hi H=>m .normal _ _ _ _ hi H) hi
    |true=>exact b3l hm rfl rfl a6a F L M j (fun st a w hi H=>m .normal _ _ _ _ hi H) hi
  . cases f
 |seq c1 c2 I J=>
  intro k u x o f Q' Q vars h a w j hi m;have hp:=a3y v j hi;clear j hi;obtain⟨x,vars,h,r,s,⟨q,p⟩,j,hi⟩:=hp;rw[←q]at f;rw[←p]at o;clear p;simp only[E9]at f;split at f
  . rename_i t A h1;split at f
    . rename_i C O D;simp only[s7,s9]at f;obtain⟨f,rfl⟩:=f;obtain⟨t,C,rfl,rfl,rfl⟩:=c6C r s f.symm;simp only[a2g,G4]at o;refine wpIn_seq (I _ _ _ (o.imp (·.1) fun h=>h) h1 _ _ _ _ _ _ j hi fun e vars h a w hi he=>?_);cases e with
      |normal=>exact J _ _ _ (o.imp (·.2) fun h=>h) D _ _ _ _ _ _ he hi m
      |exit id=>exact m (.exit id) _ _ _ _ hi he
      |ret=>exact m .ret _ _ _ _ hi he
    . cases f
  . cases f
 |cond W c1 c2 I J=>
  intro k u x o f Q' Q vars h a w j hi m;have hp:=a3y v j hi;clear j hi;obtain⟨x,vars,h,r,s,⟨q,p⟩,j,hi⟩:=hp;rw[←q]at f;rw[←p]at o;clear p;simp only[E9]at f;split at f
  . rename_i t A h1;split at f
    . rename_i C O D;split at f
      . rename_i dd S;simp only[s7,s9]at f;obtain⟨f,rfl⟩:=f;obtain⟨t,C,rfl,rfl,rfl⟩:=c2f r s f.symm;simp only[a2g,G4]at o;obtain⟨G,X,T,Y⟩:=id hi;have hr:=b1D S T;simp only[G8]at j;split at j
        . rename_i he;rw[he]at hr;exact wpIn_cond_true (a1f hr) (I _ _ _ (o.imp (·.1) fun h=>h) h1 _ _ _ _ _ _ j hi m)
        . rename_i he;rw[he]at hr;exact wpIn_cond_false (a1f hr) (J _ _ _ (o.imp (·.2) fun h=>h) D _ _ _ _ _ _ j hi m)
        . exact j.elim
      . cases f
    . cases f
  . cases f
 |block id c y=>
  intro k u x o f Q' Q vars h a w j hi m;have hp:=a3y v j hi;clear j hi;obtain⟨x,vars,h,r,s,⟨q,p⟩,j,hi⟩:=hp;rw[←q]at f;rw[←p]at o;clear p;simp only[E9]at f;split at f
  . rename_i t A h1;simp only[s7,s9]at f;obtain⟨f,rfl⟩:=f;obtain⟨t,rfl,rfl⟩:=c5B r s f.symm;refine wpIn_block (y _ _ t (show a2g t=true∨_ from o) h1 _ _ _ _ _ _ j hi fun e vars h a w hi he=>?_);cases e with
    |normal=>exact m .normal _ _ _ _ hi he
    |exit i=>
     simp only[xin]at he;show Exit.inBlock id Q (.exit i) a w;simp only[Exit.inBlock];split at he
     . rename_i e;rw[if_pos e];exact m .normal _ _ _ _ hi he
     . rename_i e;rw[if_neg e];exact m (.exit i) _ _ _ _ hi he
    |ret=>exact m .ret _ _ _ _ hi he
  . cases f
 |loop c y=>
  intro k u x o f Q' Q vars h a w j hi m;have hp:=a3y v j hi;clear j hi;obtain⟨x,vars,h,r,s,⟨q,p⟩,j,hi⟩:=hp;rw[←q]at f;rw[←p]at o;clear p;simp only[E9]at f;split at f
  . rename_i t A h1;simp only[s7,s9]at f;obtain⟨f,rfl⟩:=f;rcases c2Z r s f.symm with⟨t,rfl,rfl⟩|⟨lv,c0,t,rfl,rfl⟩
    . obtain⟨n,j⟩:=j;refine wpIn_loop_rounds n ?_
      induction n generalizing vars h a w with
      |zero=>exact j.elim
      |succ n K=>
       refine y _ _ t (show a2g t=true∨_ from o) h1 _ _ _ _ _ _ j hi fun e vars h a w hi he=>?_;cases e with
       |normal=>exact K _ _ _ _ hi he
       |exit id=>exact m (.exit id) _ _ _ _ hi he
       |ret=>exact m .ret _ _ _ _ hi he
    . obtain⟨n,j⟩:=j;refine wpIn_loop_rounds n ?_
      induction n generalizing vars h a w with
      |zero=>exact j.elim
      |succ n K=>
       obtain⟨U,j⟩:=j;have R:∀{g:PV} {G:Gh} {h:l7} {z:PV} {G':Gh} {h':l7} {w:World},W0.psi g G h w→W0.psi z G' h' w:=by
        rcases o with h1|h1
        . simp[a2g]at h1
        . exact h1
       refine y _ _ _ (.inr R) h1 _ _ _ _ _ _ j (c2X R hi U) fun e vars h a w hi he=>?_;cases e with
       |normal=>exact K _ _ _ _ hi he
       |exit id=>exact m (.exit id) _ _ _ _ hi he
       |ret=>exact m .ret _ _ _ _ hi he
  . cases f
 |scope c y=>
  intro k u x o f Q' Q vars h a w j hi m;have hp:=a3y v j hi;clear j hi;obtain⟨x,vars,h,r,s,⟨q,p⟩,j,hi⟩:=hp;rw[←q]at f;rw[←p]at o;clear p;simp only[E9]at f;refine b3F (y _ _ _ o f _ _ _ _ _ _ j hi fun e vars h a w hi he=>?_);cases e with
  |normal=>exact m .normal _ _ _ _ hi he
  |exit id=>exact m (.exit id) _ _ _ _ hi he
  |ret=>exact m .ret _ _ _ _ hi he
 |rangeFunc g ps a b Z aa=>
  intro k u x o f Q' Q vars h act w j hi m;have hp:=a3y v j hi;clear j hi;obtain⟨x,vars,h,r,s,⟨q,p⟩,j,hi⟩:=hp;rw[←q]at f;rw[←p]at o;clear p;simp only[E9]at f;split at f
  . rename_i t A h1;split at f
    . rename_i C O D;split at f
      . rename_i gd V;split at f
        . rename_i E;simp only[s7,s9]at f;obtain⟨f,rfl⟩:=f;obtain⟨t,C,rfl,rfl,rfl⟩:=c1q r s f.symm;simp only[G4]at E;exact c1c hm F h1 D V E.1.1 E.1.2 E.2 j hi m
        . cases f
      . cases f
    . cases f
  . cases f
 |_=>
  intro k u x o f;simp only[E9]at f;cases f
theorem c0a(hm:P.follows .mixedOrders=true){f:FuncId}{X:u7}{s0:Nat}(b:a7b P f=some {X with sites:=s0,body:=strip X.body}){n:Nat}{szs:List Nat}{args:List PV}{r:PV}(hlen:args.length≤X.ntmps)
 (t:G8 (fns P) X.body (b6e X.results szs r) (X.vars.map fun s=>args.getD s .uu) (List.replicate n (0,.dead))):Fn P f szs args r:=by
 unfold a7b at b;dsimp only at b;split at b
 . cases b
 . rename_i fn d;split at b
   . cases b
   . rename_i c g;split at b
     . rename_i x k rs i j;split at b
       . rename_i u;obtain⟨v,y,z,F⟩:=u;obtain⟨G,H,I,J,A⟩:=X;simp only[s7,u7.mk.injEq]at b;obtain⟨rfl,rfl,rfl,rfl,B⟩:=b;rw[B]at i;refine⟨by unfold a1U;rw[d];simpa[g]using v,fun w Z K C D=>?_⟩;refine(a4y (ρ:=none) (n:=0)).1 (callsIn_of_wp_marks d g trivial ?_);refine b9F hm (fun h=>h) (a5n y) c 0 k A (.inr fun h=>h) i _ _ _ _ _ _ t (c7H z C D hlen) fun e vars h a w' m he=>?_;obtain⟨E,l,o,p,q,rfl⟩:=he;cases e with
         |normal=>exact b9X j m o p q
         |ret=>exact b9X j m o p q
         |exit id=>exact E.elim
       . cases b
     . cases b
theorem b5l(hm:P.follows .mixedOrders=true){f:FuncId}{off s0:Nat}{X:u7}(b:O1 P f off=some {X with sites:=s0,body:=strip X.body})(K:a2g X.body=true){first args cap:List PV}{r:PV}{h0:l7}{ws:List (Nat×Row)}(hlen:(first++args++cap).length≤X.ntmps)(L:(first.all one&&cap.all one)=true)
 (M:G8 (fns P) X.body (b1e X.results r h0 ws) (X.vars.map fun s=>(first++args++cap).getD s .uu) h0):FI P (.fn (.func f) first cap) args h0 r ws:=by
 unfold O1 at b;dsimp only at b;split at b
 . cases b
 . rename_i fn A;split at b
   . cases b
   . rename_i c C;split at b
     . rename_i x k rs E N;split at b
       . rename_i O;obtain⟨Q,R,S,ak⟩:=O;obtain⟨al,am,an,ao,T⟩:=X;simp only[s7,u7.mk.injEq]at b;obtain⟨rfl,rfl,rfl,rfl,U⟩:=b;rw[U]at E;refine⟨f,first,cap,rfl,by unfold a1U;rw[A];simpa[C]using Q,L,fun B Z0 G0 w q t y hr j o F=>?_⟩;refine(a4y (ρ:=none) (n:=0)).1 (callsIn_of_wp_marks A C trivial ?_);have V:J4 (j8 G0 h0 w D) (q++t++y) (first++args++cap):=by
          refine⟨by simp[j.1,o.1,F.1],fun i p hp=>?_⟩;by_cases h1:i<first.length
          . rw[a3t,a1k h1]at hp;obtain⟨u,d,g⟩:=j.2 i p hp;have:=(a2I.1 d).1;exact⟨u,by rw[a6K,a2Y this];exact d,g⟩
          . rw[a3t,a3X i9]at hp;by_cases z:i-first.length<args.length
            . rw[a1k z]at hp;obtain⟨u,d,g⟩:=o.2 _ p hp;have:=(a2I.1 d).1;refine⟨u,?_,g⟩;rw[a6K,a5d (by rw[j.1];omega),j.1,a2Y this];exact d
            . rw[a3X i9]at hp;obtain⟨u,d,g⟩:=F.2 _ p hp;refine⟨u,?_,g⟩;rw[a6K,a5d (by rw[j.1];omega),j.1,a5d (by rw[o.1];omega),o.1];exact d
         obtain⟨ap,aq⟩:=V;have hi:O2 B Z0 (N2.inner B G0 h0 w hr.base) (varsOf fn c) fn.ntmps ((varsOf fn c).map fun s=>(first++args++cap).getD s .uu) h0 {tmps:=(q++t++y)++Array.replicate (fn.ntmps-(q++t++y).size) undef,defers:=[]} w:=by
          have ar:(first++args++cap).length≤fn.ntmps:=hlen;refine⟨G0,hr,fun i s hs=>?_,by rw[a6J,Array.size_replicate];omega,a0u.nil,Ext.refl,Bl.refl _ _⟩;have au:s<fn.ntmps:=(by simpa[a1K]using B0.1 S s (D4 hs));rw[u9,H6,hs];simp only[a2o,a4F];by_cases av:s<(first++args++cap).length
          . grind
          . refine⟨undef,?_,?_⟩
            . grind
            . rw[u9,a0d i9];exact K9
         refine b9F hm (fun h=>h) (a5n R) c off k T (.inl K) E _ _ _ _ _ _ M hi fun e vars h a w' W he=>?_;obtain⟨Y,l,Z,aw,rfl,rfl⟩:=he;have key:LeavesInM (fz none) 0 P fn a.tmps (fun e w'=>∃u G',e=.returned u∧s6 B Z0 G' (p8 h0 ws) w'∧Ext G0 h0 w G' (p8 h0 ws) w'∧j8 G' (p8 h0 ws) w' D u (a0i l)∧Bl B w w') a.defers .returning w':=by
          obtain⟨G,H,aa,ax,⟨Ds,d1,d2,d3⟩,ab⟩:=W;rw[d2];refine a9l (m:=w.heap.size) Ds w' d1 d3 fun I hs=>?_;obtain⟨J,ac⟩:=H.cells (w':=I) (by rw[hs.size];exact m9 _) hs.cells;have ad:X0 G (p8 h0 ws) I (varsOf fn c) vars a:=fun k s ae=>by obtain⟨v,h1,z⟩:=aa k s ae;exact⟨v,h1,z.ext ac⟩
          obtain⟨af,ag⟩:=(N2.inner B G0 h0 w hr.base).shut H ab hs;obtain⟨u,ah,_,d,g⟩:=a9Q (P:=P) (fn:=fn) J ad N Z;refine⟨u,ah,u,G,rfl,J,af,?_,ag⟩;by_cases h1:l.length=1
          . obtain⟨p,rfl⟩:∃p,l=[p]:=a9E.1 h1;exact d p rfl
          . obtain⟨us,hu,r2,r3⟩:=g h1;have ai:a0i l=.tup l:=by
             match l,h1 with
             | [],_=>rfl
             | [p],h1=>exact absurd rfl h1
             |_::_::_,_=>rfl
            rw[ai,hu];unfold D;unfold j8;refine⟨us,rfl,r2,fun i p hp=>?_⟩;obtain⟨u,g1,g2⟩:=r3 i p hp;have aj:l.all a3i=true:=(by grind);exact⟨u,g1,b5d (B0.1 aj p (D4 hp)) g2⟩
         cases e with
         |normal=>exact key
         |ret=>exact key
         |exit id=>exact Y.elim
       . cases b
     . cases b
end
end
structure Callee where
 fn:FuncId→List Nat→List PV→Option PV
 fi:PV→List PV→l7→Option (PV×List (Nat×Row))
section
variable{FN:N7}
theorem a6D{Q Q':B5→Prop}(a:∀st,Q st→Q' st):∀{xs:List l6} {st:B5},G6 FN xs st Q→G6 FN xs st Q'
 | [],st,h=>a _ h
 |x::xs,st,h=>by
  cases b:gdO st.loc st.vars x.guard with
  |none=>simp only[G6,b]at h
  |some c=>
   cases c with
   |false=>simp only[G6,b]at h⊢;exact a6D a h
   |true=>
    cases d:x.op
    case call f args ks al=>
     simp only[G6,b,d]at h⊢;obtain⟨r,h0,h1,e,g⟩:=h;exact⟨r,h0,h1,e,a6D a g⟩
    case callv f args=>
     simp only[G6,b,d]at h⊢;obtain⟨r,ws,h1,e⟩:=h;exact⟨r,ws,h1,a6D a e⟩
    case cally f args=>
     simp only[G6,b,d]at h⊢;exact FN.my (fun _ _ _ h1=>⟨h1.1,a6D a h1.2⟩) h
    all_goals
     simp only[G6,b,d]at h⊢;split at h
     . exact a6D a h
     . exact h.elim
theorem b2m{K K':List PV→l7→Prop}{Q Q':J1}(c:∀vs h,K vs h→K' vs h)(b:∀e vs h,Q e vs h→Q' e vs h):∀e vs h,a2r K Q e vs h→a2r K' Q' e vs h:=by
 intro e vs h a;cases e with
 |normal=>exact c _ _ a
 |exit id=>exact b _ _ _ a
 |ret=>exact b _ _ _ a
theorem b3j{body:J1→List PV→l7→Prop}(hb:∀{Q Q':J1},(∀e vs h,Q e vs h→Q' e vs h)→∀{vs h},body Q vs h→body Q' vs h){Q Q':J1}(b:∀e vs h,Q e vs h→Q' e vs h):∀{n:Nat} {vs:List PV} {h:l7},a3z body Q n vs h→a3z body Q' n vs h
 |0,_,_,a=>a
 |n+1,vs,h,a=>hb (b2m (fun _ _=>b3j hb b) b) a
theorem a4Y:∀{c:C7} {Q Q':J1},(∀e vs h,Q e vs h→Q' e vs h)→∀{vs:List PV} {h:l7},G8 FN c Q vs h→G8 FN c Q' vs h:=by
 intro c
 induction c with
 |skip=>intro Q Q' f vs h d;exact f _ _ _ d
 |reg xs=>intro Q Q' f vs h d;exact⟨d.1,a6D (fun st=>f _ _ _) d.2⟩
 |seq a b m o=>intro Q Q' f vs h d;exact m (b2m (fun _ _=>o f) f) d
 |cond c a b m o=>
  intro Q Q' f vs h d;simp only[G8]at d⊢;split at d
  . exact m f d
  . exact o f d
  . exact d.elim
 |block id b j=>
  intro Q Q' f vs h d;refine j (fun e vs h he=>?_) d;cases e with
  |normal=>exact f _ _ _ he
  |ret=>exact f _ _ _ he
  |exit i=>
   simp only[xin]at he⊢;split at he
   . grind
   . grind
 |loop b j=>
  intro Q Q' f vs h d;obtain⟨n,d⟩:=d;exact⟨n,b3j (body:=G8 FN b) (fun f _ _ hb=>j f hb) f d⟩
 |loopS lv c0 b j=>
  intro Q Q' f vs h d;obtain⟨n,d⟩:=d;exact⟨n,b3j (body:=fun Q vs h=>settled lv c0 vs h (G8 FN b Q)) (fun f _ _ hb=>⟨hb.1,j f hb.2⟩) f d⟩
 |G7 l b j=>intro Q Q' f vs h d;exact j f d
 |G5 v c k sz b j=>intro Q Q' f vs h d;exact j f d
 |rfor g ps a b m o=>intro Q Q' f vs h d;exact FN.mi (fun _ _ h1=>f _ _ _ h1) d
 |exit id=>intro Q Q' f vs h d;exact f _ _ _ d
 |ret=>intro Q Q' f vs h d;exact f _ _ _ d
theorem c5R{σ:Type}(I:σ→List PV→l7→Prop)(a:σ→Nat){lv:List Nat}{c0:Nat}{b:C7}{Q:J1}{vs:List PV}{h:l7}(s:σ)(c:settled lv c0 vs h (I s))
 (d:∀s vs h,I s vs h→G8 FN b (a2r (fun vs h=>settled lv c0 vs h fun vs h=>∃s',I s' vs h∧a s'<a s) Q) vs h):G8 FN (.loopS lv c0 b) Q vs h:=by
 have key:∀n s vs h,a s<n→settled lv c0 vs h (I s)→a3z (fun Q vs h=>settled lv c0 vs h (G8 FN b Q)) Q n vs h:=by
  intro n
  induction n with
  |zero=>intro s vs h e;omega
  |succ n f=>
   intro s vs h e hs;refine⟨hs.1,a4Y (b2m (fun vs h g=>?_) fun _ _ _=>id) (d s _ _ hs.2)⟩;obtain⟨h1,s',i,j⟩:=g;exact f s' vs h i9 ⟨h1,i⟩
 exact⟨a s+1,key _ s vs h i9 c⟩
end
section
variable{args:List PV}{r f:PV}{ws:List (Nat×Row)}
theorem b6D:∃f:N7→List l6→B5→(B5→Prop)→Prop,f=G6:=⟨_,rfl⟩
noncomputable def Xr:=Classical.choose b6D
theorem a6e:Xr=G6:=Classical.choose_spec b6D
theorem b5k:∃f:N7→C7→J1→List PV→l7→Prop,f=G8:=⟨_,rfl⟩
noncomputable def Xw:=Classical.choose b5k
theorem a0E:Xw=G8:=Classical.choose_spec b5k
theorem c4J{a b:Int}:(a==b)=decide (a=b):=by grind
theorem c8i{a b:Int}:(a !=b)=!decide (a=b):=by grind
theorem c5p{a b:Nat}:((a:Int)=(b:Int))=(a=b):=by grind
def KN(Q:J1)(st:B5):Prop:=Q .normal st.vars st.heap
def Xo(FN:N7)(o:Option Eff)(var:Option Nat)(xs:List l6)(st:B5)(Q:B5→Prop):Prop:=match o with
 |some (p,ws)=>Xr FN xs ⟨st.loc++[p],K0 st.vars var p,p8 st.heap ws⟩ Q
 |none=>False
def Xc(FN:N7)(f:FuncId)(szs:List Nat)(args:List PV)(own:Bool)(ks:List (Nat×Nat))(hide:List Nat)(var:Option Nat)(xs:List l6)(st:B5)(Q:B5→Prop):Prop:=
 ∃r,FN.fn f szs args r∧a4c st.heap.length ks own r=true∧
  Xr FN xs ⟨st.loc++[Z9 (O0 ks) (Z4 (l8 st.heap hide)) r],K0 st.vars var (Z9 (O0 ks) (Z4 (l8 st.heap hide)) r),p8 st.heap (J9 (O0 ks) (Z4 (l8 st.heap hide)) 0 (B9 r))⟩ Q
def Xv(FN:N7)(f:PV)(args:List PV)(var:Option Nat)(xs:List l6)(st:B5)(Q:B5→Prop):Prop:=
 ∃r ws,FN.fi f args st.heap r ws∧Xr FN xs ⟨st.loc++[r],K0 st.vars var r,p8 st.heap ws⟩ Q
def Xvh(FN:N7)(hide:List Nat)(f:PV)(args:List PV)(var:Option Nat)(xs:List l6)(st:B5)(Q:B5→Prop):Prop:=
 ∃r ws,((∀h',agr hide st.heap h'→FN.fi f args h' r ws)∧a2f hide (y9 st.loc st.vars) ws=true)∧Xr FN xs ⟨st.loc++[r],K0 st.vars var r,p8 st.heap ws⟩ Q
def Xy(FN:N7)(f:PV)(args:List PV)(var:Option Nat)(xs:List l6)(st:B5)(Q:B5→Prop):Prop:=
 FN.fy f args st.vars st.heap fun r vs h=>h.length=st.heap.length∧Xr FN xs ⟨st.loc++[r],K0 vs var r,h⟩ Q
def a5J(FN:N7)(ps:List (Option Nat))(a b:C7)(vs:List PV):YT:=fun args h1 k=>args.length=ps.length∧Xw FN a (a8E fun c d=>Xw FN b (fun e _ f=>k (a9n e) f) c d) (a6B vs ps args) h1
def Xi(FN:N7)(v:PV)(ps:List (Option Nat))(a b:C7)(Q:J1)(vs:List PV)(h:l7):Prop:=
 FN.it v (a5J FN ps a b vs) h fun p h'=>Q (unp p) vs h'
def Xe(FN:N7)(op:N9)(var:Option Nat)(hide:List Nat)(xs:List l6)(st:B5)(Q:B5→Prop):Prop:=match op with
 | .call f args ks al=>(al=true→args.all (fun a=>a3d (y9 st.loc st.vars a))=true)∧Xc FN f (ks.map (·.2)) (args.map fun a=>fzV (l8 st.heap hide) (y9 st.loc st.vars a)) ((args.map (y9 st.loc st.vars)).any (a2c (l8 st.heap hide))) ks hide var xs st Q
 | .callv f args=>(match hide with
  | []=>Xv FN (y9 st.loc st.vars f) (args.map (y9 st.loc st.vars)) var xs st Q
  |k::l=>Xvh FN (k::l) (y9 st.loc st.vars f) (args.map (y9 st.loc st.vars)) var xs st Q)
 | .cally f args=>Xy FN (y9 st.loc st.vars f) (args.map (y9 st.loc st.vars)) var xs st Q
 |op=>Xo FN (B3 (y9 st.loc st.vars) (l8 st.heap hide) op) var xs st Q
def Xg(FN:N7)(g:Option Bool)(op:N9)(var:Option Nat)(hide:List Nat)(xs:List l6)(st:B5)(Q:B5→Prop):Prop:=match g with
 |none=>False
 |some false=>Xr FN xs ⟨st.loc++[.tup []],K0 st.vars var (.tup []),st.heap⟩ Q
 |some true=>Xe FN op var hide xs st Q
section
variable{FN:N7}{Q:J1}{vs:List PV}{h:l7}
theorem c6Q{l:List PV}:Xr FN [] ⟨l,vs,h⟩ (KN Q)=Q .normal vs h:=by rw[a6e];rfl
theorem c6s{op:N9}{var:Option Nat}{g:Option (A0×Bool)}{hide:List Nat}{xs:List l6}{l:List PV}{K:B5→Prop}:Xr FN (⟨op,var,g,hide⟩::xs) ⟨l,vs,h⟩ K=Xg FN (gdO l vs g) op var hide xs ⟨l,vs,h⟩ K:=by
 rw[a6e];unfold Xg;cases a:gdO l vs g with
 |none=>simp[G6,a]
 |some b=>
  cases b with
  |false=>rw[a6e];simp[G6,a]
  |true=>
   unfold Xe;cases op
   case callv f args=>cases hide<;>simp only[G6,a,fiH,Xv,Xvh,a6e]
   case call f args ks al=>
    simp only[G6,a,Xc,a6e];exact propext ⟨fun⟨r,h0,h1⟩=>⟨h0,r,h1⟩,fun⟨h0,r,h1⟩=>⟨r,h0,h1⟩⟩
   all_goals (simp only[G6,a,Xo,Xy,a6e]<;>first|rfl|skip)
section
variable{var:Option Nat}{xs:List l6}{K:B5→Prop}{hide:List Nat}{l:List PV}{op:N9}{st:B5}{k:Nat}
theorem g_f:Xg FN (some false) op var hide xs ⟨l,vs,h⟩ K=Xr FN xs ⟨l++[.tup []],K0 vs var (.tup []),h⟩ K:=rfl
theorem g_t:Xg FN (some true) op var hide xs st K=Xe FN op var hide xs st K:=rfl
theorem e_mv{x}:Xe FN (.mv x) var hide xs ⟨l,vs,h⟩ K=Xo FN (B3 (y9 l vs) (l8 h hide) (.mv x)) var xs ⟨l,vs,h⟩ K:=rfl
theorem c2B{c}{a}{b}:Xe FN (.pick c a b) var hide xs ⟨l,vs,h⟩ K=Xo FN (B3 (y9 l vs) (l8 h hide) (.pick c a b)) var xs ⟨l,vs,h⟩ K:=rfl
theorem c9F{k}{zs}:Xe FN (.alloc k zs) var hide xs ⟨l,vs,h⟩ K=Xo FN (B3 (y9 l vs) (l8 h hide) (.alloc k zs)) var xs ⟨l,vs,h⟩ K:=rfl
theorem c4n{k}{x}:Xe FN (.box k x) var hide xs ⟨l,vs,h⟩ K=Xo FN (B3 (y9 l vs) (l8 h hide) (.box k x)) var xs ⟨l,vs,h⟩ K:=rfl
theorem c8G{zs}{parts}:Xe FN (.build zs parts) var hide xs ⟨l,vs,h⟩ K=Xo FN (B3 (y9 l vs) (l8 h hide) (.build zs parts)) var xs ⟨l,vs,h⟩ K:=rfl
theorem c4u{k}{sz}{zs}{parts}:Xe FN (.mkarr k sz zs parts) var hide xs ⟨l,vs,h⟩ K=Xo FN (B3 (y9 l vs) (l8 h hide) (.mkarr k sz zs parts)) var xs ⟨l,vs,h⟩ K:=rfl
theorem c7n{sz}{zs}{parts}:Xe FN (.lit sz zs parts) var hide xs ⟨l,vs,h⟩ K=Xo FN (B3 (y9 l vs) (l8 h hide) (.lit sz zs parts)) var xs ⟨l,vs,h⟩ K:=rfl
theorem c7A{agg}{sz}{a}:Xe FN (.load agg sz a) var hide xs ⟨l,vs,h⟩ K=Xo FN (B3 (y9 l vs) (l8 h hide) (.load agg sz a)) var xs ⟨l,vs,h⟩ K:=rfl
theorem c2y{agg}{sz}{a}:Xe FN (.loadV agg sz a) var hide xs ⟨l,vs,h⟩ K=Xo FN (B3 (y9 l vs) (l8 h hide) (.loadV agg sz a)) var xs ⟨l,vs,h⟩ K:=rfl
theorem c9R{sz}{a}{v}:Xe FN (.store sz a v) var hide xs ⟨l,vs,h⟩ K=Xo FN (B3 (y9 l vs) (l8 h hide) (.store sz a v)) var xs ⟨l,vs,h⟩ K:=rfl
theorem c3t{x}:Xe FN (.nilchk x) var hide xs ⟨l,vs,h⟩ K=Xo FN (B3 (y9 l vs) (l8 h hide) (.nilchk x)) var xs ⟨l,vs,h⟩ K:=rfl
theorem c8W{op}{bt}{x}{y}:Xe FN (.bin op bt x y) var hide xs ⟨l,vs,h⟩ K=Xo FN (B3 (y9 l vs) (l8 h hide) (.bin op bt x y)) var xs ⟨l,vs,h⟩ K:=rfl
theorem e_un{op}{x}:Xe FN (.un op x) var hide xs ⟨l,vs,h⟩ K=Xo FN (B3 (y9 l vs) (l8 h hide) (.un op x)) var xs ⟨l,vs,h⟩ K:=rfl
theorem c2C{k}{x}:Xe FN (.conv k x) var hide xs ⟨l,vs,h⟩ K=Xo FN (B3 (y9 l vs) (l8 h hide) (.conv k x)) var xs ⟨l,vs,h⟩ K:=rfl
theorem c5o{x}:Xe FN (.convStr x) var hide xs ⟨l,vs,h⟩ K=Xo FN (B3 (y9 l vs) (l8 h hide) (.convStr x)) var xs ⟨l,vs,h⟩ K:=rfl
theorem c3V{k}{sz}{bytes}{z}{len}{cap}:Xe FN (.makeSlice k sz bytes z len cap) var hide xs ⟨l,vs,h⟩ K=Xo FN (B3 (y9 l vs) (l8 h hide) (.makeSlice k sz bytes z len cap)) var xs ⟨l,vs,h⟩ K:=rfl
theorem c3G{st}{sz}{x}{lo}{hi}{mx}:Xe FN (.slice st sz x lo hi mx) var hide xs ⟨l,vs,h⟩ K=Xo FN (B3 (y9 l vs) (l8 h hide) (.slice st sz x lo hi mx)) var xs ⟨l,vs,h⟩ K:=rfl
theorem c1s{off}{x}:Xe FN (.fieldAddr off x) var hide xs ⟨l,vs,h⟩ K=Xo FN (B3 (y9 l vs) (l8 h hide) (.fieldAddr off x)) var xs ⟨l,vs,h⟩ K:=rfl
theorem c4z{agg}{off}{sz}{x}:Xe FN (.field agg off sz x) var hide xs ⟨l,vs,h⟩ K=Xo FN (B3 (y9 l vs) (l8 h hide) (.field agg off sz x)) var xs ⟨l,vs,h⟩ K:=rfl
theorem c2p{sz}{x}{i}:Xe FN (.indexAddr sz x i) var hide xs ⟨l,vs,h⟩ K=Xo FN (B3 (y9 l vs) (l8 h hide) (.indexAddr sz x i)) var xs ⟨l,vs,h⟩ K:=rfl
theorem c6U{n}{sz}{x}{i}:Xe FN (.indexAddrA n sz x i) var hide xs ⟨l,vs,h⟩ K=Xo FN (B3 (y9 l vs) (l8 h hide) (.indexAddrA n sz x i)) var xs ⟨l,vs,h⟩ K:=rfl
theorem c7y{x}{i}:Xe FN (.indexS x i) var hide xs ⟨l,vs,h⟩ K=Xo FN (B3 (y9 l vs) (l8 h hide) (.indexS x i)) var xs ⟨l,vs,h⟩ K:=rfl
theorem c4N{x}{i}:Xe FN (.extract x i) var hide xs ⟨l,vs,h⟩ K=Xo FN (B3 (y9 l vs) (l8 h hide) (.extract x i)) var xs ⟨l,vs,h⟩ K:=rfl
theorem c7S{f}{args}:Xe FN (.cally f args) var hide xs ⟨l,vs,h⟩ K=Xy FN (y9 l vs f) (args.map (y9 l vs)) var xs ⟨l,vs,h⟩ K:=rfl
theorem c7o{f}{args}:Xe FN (.callv f args) var [] xs ⟨l,vs,h⟩ K=Xv FN (y9 l vs f) (args.map (y9 l vs)) var xs ⟨l,vs,h⟩ K:=rfl
theorem c9D{f}{args}:Xe FN (.callv f args) var (k::hide) xs ⟨l,vs,h⟩ K=Xvh FN (k::hide) (y9 l vs f) (args.map (y9 l vs)) var xs ⟨l,vs,h⟩ K:=rfl
end
theorem c0v{hide:List Nat}{var:Option Nat}{xs:List l6}{l:List PV}{K:B5→Prop}(b:∀h',agr hide h h'→FN.fi f args h' r ws)
 (a:a2f hide (y9 l vs) ws=true∧Xr FN xs ⟨l++[r],K0 vs var r,p8 h ws⟩ K):Xvh FN hide f args var xs ⟨l,vs,h⟩ K:=⟨r,ws,⟨b,a.1⟩,a.2⟩
section
variable{var:Option Nat}{hide:List Nat}{xs:List l6}{l:List PV}{K:B5→Prop}
theorem c9N{st}{x}:Xe FN (.len st x) var hide xs ⟨l,vs,h⟩ K=Xo FN (B3 (y9 l vs) (l8 h hide) (.len st x)) var xs ⟨l,vs,h⟩ K:=rfl
theorem c7M{mx}{a}:Xe FN (.minmax mx a) var hide xs ⟨l,vs,h⟩ K=Xo FN (B3 (y9 l vs) (l8 h hide) (.minmax mx a)) var xs ⟨l,vs,h⟩ K:=rfl
theorem c4Y{k}{sz}{bytes}{mode}{s}{x}:Xe FN (.append k sz bytes mode s x) var hide xs ⟨l,vs,h⟩ K=Xo FN (B3 (y9 l vs) (l8 h hide) (.append k sz bytes mode s x)) var xs ⟨l,vs,h⟩ K:=rfl
theorem c5N{sz}{d}{s}:Xe FN (.copy sz d s) var hide xs ⟨l,vs,h⟩ K=Xo FN (B3 (y9 l vs) (l8 h hide) (.copy sz d s)) var xs ⟨l,vs,h⟩ K:=rfl
theorem c3u{f}{first}{captured}:Xe FN (.mkfn f first captured) var hide xs ⟨l,vs,h⟩ K=Xo FN (B3 (y9 l vs) (l8 h hide) (.mkfn f first captured)) var xs ⟨l,vs,h⟩ K:=rfl
theorem c1P{k}{zs}:Xe FN (.allocA k zs) var hide xs ⟨l,vs,h⟩ K=Xo FN (B3 (y9 l vs) (l8 h hide) (.allocA k zs)) var xs ⟨l,vs,h⟩ K:=rfl
theorem c5v{k}{x}:Xe FN (.boxA k x) var hide xs ⟨l,vs,h⟩ K=Xo FN (B3 (y9 l vs) (l8 h hide) (.boxA k x)) var xs ⟨l,vs,h⟩ K:=rfl
theorem c5k{n}{a}:Xe FN (.loadA n a) var hide xs ⟨l,vs,h⟩ K=Xo FN (B3 (y9 l vs) (l8 h hide) (.loadA n a)) var xs ⟨l,vs,h⟩ K:=rfl
theorem c8l{n}{a}{v}:Xe FN (.storeA n a v) var hide xs ⟨l,vs,h⟩ K=Xo FN (B3 (y9 l vs) (l8 h hide) (.storeA n a v)) var xs ⟨l,vs,h⟩ K:=rfl
theorem c4H{neg}{ts}{x}{y}:Xe FN (.eqS neg ts x y) var hide xs ⟨l,vs,h⟩ K=Xo FN (B3 (y9 l vs) (l8 h hide) (.eqS neg ts x y)) var xs ⟨l,vs,h⟩ K:=rfl
theorem c7E{neg}{x}{y}:Xe FN (.eqNil neg x y) var hide xs ⟨l,vs,h⟩ K=Xo FN (B3 (y9 l vs) (l8 h hide) (.eqNil neg x y)) var xs ⟨l,vs,h⟩ K:=rfl
theorem c7z{k}{r}:Xe FN (.makeMap k r) var hide xs ⟨l,vs,h⟩ K=Xo FN (B3 (y9 l vs) (l8 h hide) (.makeMap k r)) var xs ⟨l,vs,h⟩ K:=rfl
theorem c3F{kt}{m}{x}{v}:Xe FN (.mapUpd kt m x v) var hide xs ⟨l,vs,h⟩ K=Xo FN (B3 (y9 l vs) (l8 h hide) (.mapUpd kt m x v)) var xs ⟨l,vs,h⟩ K:=rfl
theorem c4f{kt}{ok}{z}{m}{x}:Xe FN (.lookup kt ok z m x) var hide xs ⟨l,vs,h⟩ K=Xo FN (B3 (y9 l vs) (l8 h hide) (.lookup kt ok z m x)) var xs ⟨l,vs,h⟩ K:=rfl
theorem c5y{k}{kt}{sz}{z}{m}{x}:Xe FN (.lookupT k kt sz z m x) var hide xs ⟨l,vs,h⟩ K=Xo FN (B3 (y9 l vs) (l8 h hide) (.lookupT k kt sz z m x)) var xs ⟨l,vs,h⟩ K:=rfl
theorem a9H{sz}{a}{v}{av}:Xe FN (.storeN sz a v av) var hide xs ⟨l,vs,h⟩ K=Xo FN (B3 (y9 l vs) (l8 h hide) (.storeN sz a v av)) var xs ⟨l,vs,h⟩ K:=rfl
theorem c6H{n}{sz}{x}{lo}{hi}:Xe FN (.sliceV n sz x lo hi) var hide xs ⟨l,vs,h⟩ K=Xo FN (B3 (y9 l vs) (l8 h hide) (.sliceV n sz x lo hi)) var xs ⟨l,vs,h⟩ K:=rfl
theorem d0e{neg}{x}{y}:Xe FN (.eqPtr neg x y) var hide xs ⟨l,vs,h⟩ K=Xo FN (B3 (y9 l vs) (l8 h hide) (.eqPtr neg x y)) var xs ⟨l,vs,h⟩ K:=rfl
theorem c9m{m}:Xe FN (.clearM m) var hide xs ⟨l,vs,h⟩ K=Xo FN (B3 (y9 l vs) (l8 h hide) (.clearM m)) var xs ⟨l,vs,h⟩ K:=rfl
theorem c8t{z}{x}:Xe FN (.clearS z x) var hide xs ⟨l,vs,h⟩ K=Xo FN (B3 (y9 l vs) (l8 h hide) (.clearS z x)) var xs ⟨l,vs,h⟩ K:=rfl
end
theorem c2K{f:FuncId}{args:List A0}{ks:List (Nat×Nat)}{al:Bool}{var:Option Nat}{hide:List Nat}{xs:List l6}{l:List PV}{K:B5→Prop}:Xe FN (.call f args ks al) var hide xs ⟨l,vs,h⟩ K=
 ((al=true→args.all (fun a=>a3d (y9 l vs a))=true)∧Xc FN f (ks.map (·.2)) (args.map fun a=>fzV (l8 h hide) (y9 l vs a)) ((args.map (y9 l vs)).any (a2c (l8 h hide))) ks hide var xs ⟨l,vs,h⟩ K):=rfl
theorem c8d{p:PV}{var:Option Nat}{xs:List l6}{l:List PV}{K:B5→Prop}:Xo FN (some (p,ws)) var xs ⟨l,vs,h⟩ K=Xr FN xs ⟨l++[p],K0 vs var p,p8 h ws⟩ K:=rfl
theorem a2H{var:Option Nat}{xs:List l6}{l:List PV}{K:B5→Prop}(a:FN.fi f args h r ws)
 (b:Xr FN xs ⟨l++[r],K0 vs var r,p8 h ws⟩ K):Xv FN f args var xs ⟨l,vs,h⟩ K:=⟨r,ws,a,b⟩
theorem m6{f:FuncId}{szs:List Nat}{own:Bool}{ks:List (Nat×Nat)}{hide:List Nat}{var:Option Nat}{xs:List l6}{l:List PV}{K:B5→Prop}(a:FN.fn f szs args r)
 (b:a4c h.length ks own r=true∧Xr FN xs ⟨l++[Z9 (O0 ks) (Z4 (l8 h hide)) r],K0 vs var (Z9 (O0 ks) (Z4 (l8 h hide)) r),p8 h (J9 (O0 ks) (Z4 (l8 h hide)) 0 (B9 r))⟩ K):
 Xc FN f szs args own ks hide var xs ⟨l,vs,h⟩ K:=⟨r,a,b⟩
theorem c5P:Xw FN .skip Q vs h=Q .normal vs h:=by rw[a0E];rfl
theorem c3p{xs:List l6}:Xw FN (.reg xs) Q vs h=(a2k h.length xs=true∧Xr FN xs ⟨[],vs,h⟩ (KN Q)):=by rw[a0E,a6e];rfl
theorem b5o{a b:C7}:Xw FN (.seq a b) Q vs h=Xw FN a (a2r (Xw FN b Q) Q) vs h:=by rw[a0E];rfl
theorem b8Q{c:A0}{a b:C7}(d:y9 [] vs c=.bool true):Xw FN (.cond c a b) Q vs h=Xw FN a Q vs h:=by rw[a0E];simp only[G8,d]
theorem b8L{c:A0}{a b:C7}(d:y9 [] vs c=.bool false):Xw FN (.cond c a b) Q vs h=Xw FN b Q vs h:=by rw[a0E];simp only[G8,d]
theorem c6f{c:A0}{a b:C7}{t:Bool}(d:y9 [] vs c=.bool t)(h1:t=true→Xw FN a Q vs h)(e:t=false→Xw FN b Q vs h):Xw FN (.cond c a b) Q vs h:=by
 cases t
 . rw[b8L d];exact e rfl
 . rw[b8Q d];exact h1 rfl
section
variable{id v k sz i:Nat}{b a:C7}{K:List PV→l7→Prop}{l:List (Nat×Bool)}{g:A0}{ps:List (Option Nat)}{c:Option Nat}
theorem c7R:Xw FN (.block id b) Q vs h=Xw FN b (xin id Q) vs h:=by rw[a0E];rfl
theorem c9g:Xw FN (.G7 l b) Q vs h=Xw FN b Q vs (a4u l h):=by rw[a0E];rfl
theorem c7k:Xw FN (.rfor g ps a b) Q vs h=Xi FN (y9 [] vs g) ps a b Q vs h:=by unfold Xi a5J;rw[a0E];rfl
theorem c9r:a8E K .normal vs h=K vs h:=rfl
theorem c3B:Xw FN (.G5 v c k sz b) Q vs h=Xw FN b Q (a3m v c k sz vs h).1 (a3m v c k sz vs h).2:=by rw[a0E];rfl
theorem c3l:Xw FN (.exit id) Q vs h=Q (.exit id) vs h:=by rw[a0E];rfl
theorem c9S:Xw FN .ret Q vs h=Q .ret vs h:=by rw[a0E];rfl
theorem c2I:a2r K Q .normal vs h=K vs h:=rfl
theorem c2v:a2r K Q (.exit id) vs h=Q (.exit id) vs h:=rfl
theorem c1O:a2r K Q .ret vs h=Q .ret vs h:=rfl
theorem c4d:xin id Q .normal vs h=Q .normal vs h:=rfl
theorem c5U:xin id Q (.exit i) vs h=if i=id then Q .normal vs h else Q (.exit i) vs h:=rfl
theorem c9T:xin id Q .ret vs h=Q .ret vs h:=rfl
end
theorem I6{σ:Type}(I:σ→List PV→l7→Prop)(a:σ→Nat){lv:List Nat}{c0:Nat}{b:C7}(s:σ)(e:settled lv c0 vs h (I s))
 (c:∀s vs h,I s vs h→∀Q':J1,(∀s' vs h,a s'<a s→settled lv c0 vs h (I s')→Q' .normal vs h)→(∀id vs h,Q (.exit id) vs h→Q' (.exit id) vs h)→(∀vs h,Q .ret vs h→Q' .ret vs h)→Xw FN b Q' vs h):Xw FN (.loopS lv c0 b) Q vs h:=by
 rw[a0E]at c⊢;refine c5R I a s e fun s vs h f=>c s vs h f _ (fun s' vs h h1 d=>⟨d.1,s',d.2,h1⟩) (fun _ _ _=>id) fun _ _=>id
theorem b0W{c:C7}{Q Q':J1}(b:∀e vs h,Q e vs h→Q' e vs h)(a:Xw FN c Q vs h):Xw FN c Q' vs h:=by rw[a0E]at a⊢;exact a4Y b a
end
section
variable{P:Program}
theorem c1A{vs:List PV}{h:l7}{var:Option Nat}{xs:List l6}{l:List PV}{K:B5→Prop}(a:FI P f args h r ws)
 (b:Xr (fns P) xs ⟨l++[r],K0 vs var r,p8 h ws⟩ K):Xy (fns P) f args var xs ⟨l,vs,h⟩ K:=⟨r,ws,a,a6i _ _,b⟩
def fin(rs:List (Nat×Option (Bool×Nat)))(szs:List Nat)(r:PV)(vs:List PV)(h:l7):Prop:=
 ∃l,a2P (l8 h []) vs rs=some l∧a3f (a8P (a0i l))=true∧a3S szs 0 ((a0k (a0i l)).flatMap l9)=true∧rvV (l8 h []) (a0i l)=r
theorem c5V(hm:P.follows .mixedOrders=true){f:FuncId}{X:u7}{s0:Nat}(a:a7b P f=some {X with sites:=s0,body:=strip X.body})(n:Nat){szs:List Nat}(hlen:args.length≤X.ntmps)
 (h:∀Q:J1,(∀vs h,fin X.results szs r vs h→Q .ret vs h)→(∀vs h,fin X.results szs r vs h→Q .normal vs h)→Xw (fns P) X.body Q (X.vars.map fun s=>args.getD s .uu) (List.replicate n (0,.dead))):Fn P f szs args r:=
 c0a hm a (n:=n) hlen (by rw[←a0E];exact h _ (fun _ _ h=>⟨trivial,h⟩) fun _ _ h=>⟨trivial,h⟩)
end
end
section
variable{f:FuncId}{X:u7}{args first cap:List PV}{off:Nat}{h0:l7}
section
variable{P:Program}
theorem a6S:∀{xs:List l6} {st:B5} {Q:B5→Prop},G6 (fns P) xs st Q→∃a,G6 (fns P) xs st (· =a)∧Q a
 | [],st,Q,h=>⟨st,rfl,h⟩
 |x::xs,st,Q,h=>by
  cases b:gdO st.loc st.vars x.guard with
  |none=>simp only[G6,b]at h
  |some c=>
   cases c with
   |false=>simp only[G6,b]at h⊢;exact a6S h
   |true=>
    cases i:x.op
    case call f args ks al=>
     simp only[G6,b,i]at h⊢;obtain⟨r,h0,h1,j,d⟩:=h;obtain⟨a,e,g⟩:=a6S d;exact⟨a,⟨r,h0,h1,j,e⟩,g⟩
    case callv f args=>
     simp only[G6,b,i]at h⊢;obtain⟨r,ws,h1,d⟩:=h;obtain⟨a,e,g⟩:=a6S d;exact⟨a,⟨r,ws,h1,e⟩,g⟩
    case cally f args=>
     simp only[G6,b,i]at h⊢;obtain⟨r,ws,h1,j,d⟩:=h;obtain⟨a,e,g⟩:=a6S d;exact⟨a,⟨r,ws,h1,j,e⟩,g⟩
    all_goals
     simp only[G6,b,i]at h⊢;split at h
     . exact a6S h
     . exact h.elim
abbrev At(e:Q7)(vs:List PV)(h:l7):J1:=fun a vs' h'=>a=e∧vs'=vs∧h'=h
theorem b4n{body:J1→List PV→l7→Prop}(hm:∀{Q Q':J1},(∀e vs h,Q e vs h→Q' e vs h)→∀{vs h},body Q vs h→body Q' vs h)(hb:∀{Q:J1} {vs h},body Q vs h→∃e vs' h',body (At e vs' h') vs h∧Q e vs' h'):∀{n:Nat} {Q:J1} {vs:List PV} {h:l7},a3z body Q n vs h→∃e vs' h',a3z body (At e vs' h') n vs h∧Q e vs' h'
 |0,_,_,_,b=>b.elim
 |n+1,Q,vs,h,b=>by
  obtain⟨e,vs',h',h1,c⟩:=hb (show body (a2r (a3z body Q n) Q) vs h from b);cases e with
  |normal=>
   obtain⟨d,f,g,i,j⟩:=b4n hm hb (show a3z body Q n vs' h' from c);refine⟨d,f,g,hm (fun e v p a=>?_) h1,j⟩;obtain⟨rfl,rfl,rfl⟩:=a;exact i
  |exit id=>exact⟨.exit id,vs',h',hm (fun e v p a=>by obtain⟨rfl,rfl,rfl⟩:=a;exact⟨rfl,rfl,rfl⟩) h1,c⟩
  |ret=>exact⟨.ret,vs',h',hm (fun e v p a=>by obtain⟨rfl,rfl,rfl⟩:=a;exact⟨rfl,rfl,rfl⟩) h1,c⟩
def noX:C7→Bool
 | .seq a b| .cond _ a b=>noX a&&noX b
 | .block _ b| .loop b| .loopS _ _ b| .G7 _ b| .G5 _ _ _ _ b=>noX b
 | .rfor .. =>false
 |_=>true
theorem b2X:∀{c:C7},noX c=true→∀{Q:J1} {vs:List PV} {h:l7},G8 (fns P) c Q vs h→∃e vs' h',G8 (fns P) c (At e vs' h') vs h∧Q e vs' h':=by
 intro c
 induction c with
 |skip=>intro f Q vs h d;exact⟨.normal,vs,h,⟨rfl,rfl,rfl⟩,d⟩
 |reg xs=>
  intro f Q vs h d;obtain⟨u,h1,g⟩:=a6S d.2;exact⟨.normal,u.vars,u.heap,⟨d.1,a6D (fun st e=>by subst e;exact⟨rfl,rfl,rfl⟩) h1⟩,g⟩
 |seq a b r s=>
  intro f Q vs h d;simp only[noX,G4]at f;obtain⟨e,vs',h',h1,g⟩:=r f.1 (show G8 (fns P) a (a2r (G8 (fns P) b Q) Q) vs h from d);have up:∀j v2 m,a2r (G8 (fns P) b (At j v2 m)) (At j v2 m) e vs' h'→G8 (fns P) (.seq a b) (At j v2 m) vs h:=fun j v2 m q=>
   show G8 (fns P) a (a2r (G8 (fns P) b (At j v2 m)) (At j v2 m)) vs h from a4Y (fun e v p t=>by obtain⟨rfl,rfl,rfl⟩:=t;exact q) h1
  cases e with
  |normal=>
   obtain⟨j,w,x,y,z⟩:=s f.2 (show G8 (fns P) b Q vs' h' from g);exact⟨j,w,x,up _ _ _ y,z⟩
  |exit id=>exact⟨.exit id,vs',h',up _ _ _ ⟨rfl,rfl,rfl⟩,g⟩
  |ret=>exact⟨.ret,vs',h',up _ _ _ ⟨rfl,rfl,rfl⟩,g⟩
 |cond c a b r s=>
  intro f Q vs h d;simp only[noX,G4]at f;simp only[G8]at d⊢;split at d
  . exact r f.1 d
  . exact s f.2 d
  . exact d.elim
 |block id b o=>
  intro f Q vs h d;obtain⟨e,vs',h',h1,g⟩:=o f (show G8 (fns P) b (xin id Q) vs h from d);have up:∀j v2 m,xin id (At j v2 m) e vs' h'→G8 (fns P) (.block id b) (At j v2 m) vs h:=fun j v2 m q=>
   show G8 (fns P) b (xin id (At j v2 m)) vs h from a4Y (fun e v p t=>by obtain⟨rfl,rfl,rfl⟩:=t;exact q) h1
  cases e with
  |normal=>exact⟨.normal,vs',h',up _ _ _ ⟨rfl,rfl,rfl⟩,g⟩
  |ret=>exact⟨.ret,vs',h',up _ _ _ ⟨rfl,rfl,rfl⟩,g⟩
  |exit i=>
   simp only[xin]at g;split at g
   . rename_i e;exact⟨.normal,vs',h',up _ _ _ (by simp only[xin];rw[if_pos e];exact⟨rfl,rfl,rfl⟩),g⟩
   . rename_i e;exact⟨.exit i,vs',h',up _ _ _ (by simp only[xin];rw[if_neg e];exact⟨rfl,rfl,rfl⟩),g⟩
 |loop b o=>
  intro f Q vs h d;obtain⟨n,d⟩:=d;obtain⟨e,vs',h',h1,g⟩:=b4n (body:=G8 (fns P) b) (fun q _ _ hb=>a4Y q hb) (fun hb=>o f hb) d;exact⟨e,vs',h',⟨n,h1⟩,g⟩
 |loopS lv c0 b o=>
  intro f Q vs h d;obtain⟨n,d⟩:=d;obtain⟨e,vs',h',h1,g⟩:=b4n (body:=fun Q vs h=>settled lv c0 vs h (G8 (fns P) b Q)) (fun q _ _ hb=>⟨hb.1,a4Y q hb.2⟩) (fun hb=>by obtain⟨e,vs',h',h1,g⟩:=o f hb.2;exact⟨e,vs',h',⟨hb.1,h1⟩,g⟩) d
  exact⟨e,vs',h',⟨n,h1⟩,g⟩
 |G7 l b o=>
  intro f Q vs h d;exact o f (show G8 (fns P) b Q vs (a4u l h)from d)
 |G5 v c k sz b o=>
  intro f Q vs h d;exact o f (show G8 (fns P) b Q (a3m v c k sz vs h).1 (a3m v c k sz vs h).2 from d)
 |rfor=>intro f;simp[noX]at f
 |exit id=>intro f Q vs h d;exact⟨.exit id,vs,h,⟨rfl,rfl,rfl⟩,d⟩
 |ret=>intro f Q vs h d;exact⟨.ret,vs,h,⟨rfl,rfl,rfl⟩,d⟩
end
theorem a1C{P:Program}{φ:PV→Prop}(hm:P.follows .mixedOrders=true){s0:Nat}(c:a7b P f=some {X with sites:=s0,body:=strip X.body})(n:Nat){szs:List Nat}(hlen:args.length≤X.ntmps)
 (d:noX X.body=true) (h:∀Q:J1,(∀r vs h,φ r→fin X.results szs r vs h→Q .ret vs h)→(∀r vs h,φ r→fin X.results szs r vs h→Q .normal vs h)→Xw (fns P) X.body Q (X.vars.map fun s=>args.getD s .uu) (List.replicate n (0,.dead))):∃r,φ r∧Fn P f szs args r:=by
 have b:=h (fun e vs h=>∃r,φ r∧b6e X.results szs r e vs h) (fun r vs h h1 a=>⟨r,h1,trivial,a⟩) (fun r vs h h1 a=>⟨r,h1,trivial,a⟩);rw[a0E]at b;obtain⟨e,vs',h',h1,r,a,g⟩:=b2X d b;exact⟨r,a,c0a hm c (n:=n) hlen (a4Y (fun e v p i=>by obtain⟨rfl,rfl,rfl⟩:=i;exact g) h1)⟩
theorem E3{FN:N7}{Q:J1}{vs:List PV}{h:l7}{σ:Type}(I:σ→List PV→l7→Prop)(a:σ→Nat){b:C7}(s:σ)(d:I s vs h)
 (c:∀s vs h,I s vs h→∀Q':J1,(∀s' vs h,a s'<a s→I s' vs h→Q' .normal vs h)→(∀id vs h,Q (.exit id) vs h→Q' (.exit id) vs h)→(∀vs h,Q .ret vs h→Q' .ret vs h)→Xw FN b Q' vs h):Xw FN (.loop b) Q vs h:=by
 rw[a0E]at c⊢;have key:∀n s vs h,a s<n→I s vs h→a3z (G8 FN b) Q n vs h:=by
  intro n
  induction n with
  |zero=>intro s vs h e;omega
  |succ n f=>
   intro s vs h e hs;exact c s vs h hs _ (fun s' vs h h1 g=>f s' vs h i9 g) (fun _ _ _=>id) fun _ _=>id
 exact⟨a s+1,key _ s vs h i9 d⟩
def M6(rs:List (Nat×Option (Bool×Nat)))(r:PV)(h0:l7)(ws:List (Nat×Row))(vs:List PV)(h:l7):Prop:=
 ∃l,a2P (l8 h []) vs rs=some l∧(l.length==1||l.all a3i)=true∧a0i l=r∧h=p8 h0 ws
theorem b5q{P:Program}{φ:PV→List (Nat×Row)→Prop}(hm:P.follows .mixedOrders=true)(c:O1 P f off=some X)(hlen:(first++args++cap).length≤X.ntmps)(d:(first.all one&&cap.all one)=true)
 (g:noX X.body=true) (h:∀Q:J1,(∀r ws vs h,φ r ws→M6 X.results r h0 ws vs h→Q .ret vs h)→(∀r ws vs h,φ r ws→M6 X.results r h0 ws vs h→Q .normal vs h)→Xw (fns P) X.body Q (X.vars.map fun s=>(first++args++cap).getD s .uu) h0):∃r ws,φ r ws∧FI P (.fn (.func f) first cap) args h0 r ws:=by
 have b:=h (fun e vs h=>∃r ws,φ r ws∧b1e X.results r h0 ws e vs h) (fun r ws vs h h1 a=>⟨r,ws,h1,trivial,a⟩) (fun r ws vs h h1 a=>⟨r,ws,h1,trivial,a⟩);rw[a0E]at b;obtain⟨e,vs',h',h1,r,ws,a,i⟩:=b2X g b;exact⟨r,ws,a,b5c hm c hlen d (a4Y (fun e v p j=>by obtain⟨rfl,rfl,rfl⟩:=j;exact i) h1)⟩
theorem b1l{P:Program}(hm:P.follows .mixedOrders=true)(a:O1 P f off=some X){r:PV}{ws:List (Nat×Row)}(hlen:(first++args++cap).length≤X.ntmps)(b:(first.all one&&cap.all one)=true)
 (h:∀Q:J1,(∀vs h,M6 X.results r h0 ws vs h→Q .ret vs h)→(∀vs h,M6 X.results r h0 ws vs h→Q .normal vs h)→Xw (fns P) X.body Q (X.vars.map fun s=>(first++args++cap).getD s .uu) h0):FI P (.fn (.func f) first cap) args h0 r ws:=
 b5c hm a hlen b (by rw[←a0E];exact h _ (fun _ _ h=>⟨trivial,h⟩) fun _ _ h=>⟨trivial,h⟩)
theorem a3n{P:Program}(hm:P.follows .mixedOrders=true){s0:Nat}(a:O1 P f off=some {X with sites:=s0,body:=strip X.body})(b:a2g X.body=true){r:PV}{ws:List (Nat×Row)}(hlen:(first++args++cap).length≤X.ntmps)(c:(first.all one&&cap.all one)=true)
 (h:∀Q:J1,(∀vs h,M6 X.results r h0 ws vs h→Q .ret vs h)→(∀vs h,M6 X.results r h0 ws vs h→Q .normal vs h)→Xw (fns P) X.body Q (X.vars.map fun s=>(first++args++cap).getD s .uu) h0):FI P (.fn (.func f) first cap) args h0 r ws:=
 b5l hm a b hlen c (by rw[←a0E];exact h _ (fun _ _ h=>⟨trivial,h⟩) fun _ _ h=>⟨trivial,h⟩)
end
def gOf:Option Q7→PV
 |none=>.uu
 |some .ret=>.int .i64 0
 |some (.exit id)=>.int .i64 ((id:Int)+1)
 |some .normal=>.int .i64 (-1)
theorem b6o{p q:Option Q7}(h:gOf p=gOf q):p=q:=by
 rcases p with _|p
 . rcases q with _|q
   . rfl
   . cases q<;>cases h
 . rcases q with _|q
   . cases p<;>cases h
   . cases p<;>cases q<;>simp only[gOf,PV.int.injEq,true_and]at h<;>first|rfl|omega|skip
     grind
def a8h(Y:YT):Prop:=∀(args:List PV) (h:l7) (k a:Option Q7→l7→Prop),(∀p h,k p h→a p h)→Y args h k→Y args h a
def fnY(P:Program)(l n:Nat)(Y:YT)(hm:a8h Y):N7:=
 ⟨Fn P,FI P,fun v args vars h K=>fyI P v args vars h K∨(v=.fn (.yield l) [] []∧vars.getD n .uu=gOf none∧vars.length=n+1∧Y args h fun p h'=>K (.bool p.isNone) (vars.set n (gOf p)) h'),IT P,
  fun a h=>h.imp (fun⟨r,ws,h1,b⟩=>⟨r,ws,h1,a _ _ _ b⟩) fun⟨h1,b,c,d⟩=>⟨h1,b,c,hm _ _ _ _ (fun _ _=>a _ _ _) d⟩,fun a h=>h.mono a⟩
section
variable{P:Program}{B:Nat}{Z0:Nat→Prop}{G G':Gh}{h h':l7}{w w':World}
theorem c4t{F:Fence}{n l:Nat}{c:Array Value}{R R':Ending→World→Prop}(hr:∀e w,R e w→R' e w)(d:YieldAt F n P l c w R):YieldAt F n P l c w R':=by obtain⟨fn,t,a,b,h1,f⟩:=d;exact⟨fn,t,a,b,h1,f.mono hr⟩
theorem c9Z{vs:List Nat}{N:Nat}:∀{c:Code} {k f:Nat} {x:C7},E9 P vs N k c=some (x,f)→noX x=true→noR c=true:=by
 intro c
 induction c with
 |seq a b i j=>
  intro k f x d e;simp only[E9]at d;split at d
  . rename_i h1;split at d
    . rename_i l;cases d;simp only[noX,G4]at e;simp only[noR,G4]
      grind
    . cases d
  . cases d
 |cond m a b i j=>
  intro k f x d e;simp only[E9]at d;split at d
  . rename_i h1;split at d
    . rename_i l;split at d
      . cases d;simp only[noX,G4]at e;simp only[noR,G4]
        grind
      . cases d
    . cases d
  . cases d
 |block id b h=>
  intro k f x d e;simp only[E9]at d;split at d
  . rename_i h1;cases d;exact h h1 e
  . cases d
 |loop b h=>
  intro k f x d e;simp only[E9]at d;split at d
  . rename_i h1;cases d;exact h h1 e
  . cases d
 |scope b h=>intro k f x d e;exact h (show E9 P vs N k b=_ from d) e
 |rangeFunc g ps a b i j=>
  intro k f x d e;simp only[E9]at d;split at d
  . split at d
    . split at d
      . split at d
        . cases d;simp[noX]at e
        . cases d
      . cases d
    . cases d
  . cases d
 |_=>intros;rfl
theorem c5D:∀{x:C7},noX (I1 x)=noX x:=by
 intro x
 induction x<;>simp_all [I1,noX]
def N2.it(w:World)(B:Nat)(Z0:Nat→Prop)(G0:Gh)(h0:l7)(a:Option Q7→Gh→l7→World→Prop)
 (f:∀{p:Option Q7} {G:Gh} {h:l7} {w:World} {G':Gh} {h':l7} {w':World},a p G h w→Ext G h w G' h' w'→Bl B w w'→a p G' h' w')
 (i:∀{Z0:Nat→Prop} {p:Option Q7} {G:Gh} {h:l7} {w1 w2:World},s6 B Z0 G h w1→a p G h w1→Y7 w.heap.size w1 w2→a p G h w2):N2 B:=
 ⟨w.heap.size,fun g G h w'=>∃p,g=gOf p∧Ext G0 h0 w G h w'∧a p G h w'∧w.heap.size≤w'.heap.size,fun⟨_,_,_,_,h⟩=>h,
  fun⟨p,h1,c,d,e⟩ x b=>⟨p,h1,c.trans x,f d x b,V1 e b.size⟩,
  fun r ⟨p,h1,c,d,e⟩ s=>⟨p,h1,c.trans (r.cells (by rw[s.size];exact m9 _) s.cells).2,i r d s,by rw[s.size];exact e⟩⟩
theorem b9W(hm:P.follows .mixedOrders=true){f:FuncId}{off:Nat}{X:u7}{s0:Nat}(b:O1 P f off=some {X with sites:=s0,body:=I1 X.body})(A:X.results=[])(C:noX X.body=true){cap:List PV}{Y:YT}(q:a8h Y){K:Option Q7→l7→Prop}{h0:l7}
 (hlen:cap.length+1≤X.ntmps) (W:cap.all one=true)
 (E:∀(l:Nat) (Q:J1),(∀p vs h,vs.getD X.vars.length .uu=gOf p→K p h→Q .ret vs h)→(∀p vs h,vs.getD X.vars.length .uu=gOf p→K p h→Q .normal vs h)→
  Xw (fnY P l X.vars.length Y q) X.body Q ((X.vars.map fun s=>(.fn (.yield l) [] []::cap).getD s .uu)++[gOf none]) h0):IT P (.fn (.func f) [] cap) Y h0 K:=by
 unfold O1 at b;dsimp only at b;split at b
 . cases b
 . rename_i fn F;split at b
   . cases b
   . rename_i c H;split at b
     . rename_i x k rs r Z;split at b
       . rename_i aa;obtain⟨ab,ac,ad,aF⟩:=aa;obtain⟨aG,aH,aI,aJ,ae⟩:=X;simp only[s7,u7.mk.injEq]at b;obtain⟨rfl,rfl,rfl,rfl,af⟩:=b;rw[af]at r;simp only at A hlen E C;subst A;refine⟨f,cap,rfl,by unfold a1U;rw[F];simpa[H]using ab,W,fun B Z0 G0 w o l t hr I J y ag hΨ=>?_⟩;refine(a4y (ρ:=none) (n:=0)).1 (callsIn_of_wp_marks F H trivial ?_);have aK:(#[.func (.yield l) #[] #[]]++o:Array Value).size=cap.length+1:=(by simp[I.1];omega);have aL:∀(i:Nat) p,(PV.fn (.yield l) [] []::cap)[i]?=some p→∃u,(#[.func (.yield l) #[] #[]]++o:Array Value)[i]?=some u∧j8 G0 h0 w D u p:=fun i p hp=>by
          cases i with
          |zero=>
           simp at hp;subst hp;refine⟨.func (.yield l) #[] #[],(a2Y (by grind)).trans rfl,?_⟩;unfold D;unfold j8;exact⟨_,_,rfl,⟨rfl,fun i c b=>by simp at b⟩,⟨rfl,fun i c b=>by simp at b⟩⟩
          |succ i=>
           obtain⟨u,ah,ai⟩:=I.2 i p (by simpa using hp);refine⟨u,?_,ai⟩;rw[a5d l5];simpa using ah
         have aj:∀(l:List PV) (g:PV) (n:Nat),l.length=n→(l++[g]).getD n .uu=g:=fun l g n e=>by subst e;simp[u9]
         have hi:O2 B Z0 (N2.it w B Z0 G0 h0 t J y) (varsOf fn c) fn.ntmps (((varsOf fn c).map fun s=>(.fn (.yield l) [] []::cap).getD s .uu)++[gOf none]) h0 {tmps:=(#[.func (.yield l) #[] #[]]++o)++Array.replicate (fn.ntmps-(#[.func (.yield l) #[] #[]]++o:Array Value).size) undef,defers:=[]} w:=by
          refine⟨G0,hr,fun i s hs=>?_,by rw[a6J,Array.size_replicate];omega,a0u.nil,none,aj _ _ _ l5,Ext.refl,hΨ,m9 _⟩;have aM:s<fn.ntmps:=(by simpa[a1K]using B0.1 ad s (D4 hs));rw[u9,a1k (by grind),H6,hs];simp only[a2o,a4F];by_cases aN:s<(PV.fn (.yield l) [] []::cap).length
          . grind
          . refine⟨undef,?_,?_⟩
            . grind
            . rw[u9,a0d i9];exact K9
         have ak:a7s P B Z0 (N2.it w B Z0 G0 h0 t J y) none (varsOf fn c) (fnY P l (varsOf fn c).length Y q).fy:=by
          rintro v args vars h1 K1 (al|⟨rfl,am,aO,an⟩) G1 w1 u aP r1 L hu M
          . exact a6a al r1 L hu M
          . right
            unfold D at hu;unfold j8 at hu;obtain⟨ao,a2,rfl,a3,a4⟩:=hu;have d:ao= #[]:=b1K (by simpa using a3.1);have j:a2= #[]:=b1K (by simpa using a4.1);subst d;subst j;obtain⟨ap,g1,g2,g3,g4⟩:=L;have aq:ap=none:=b6o (by rw[←g1];exact am);subst aq;refine⟨l,rfl,fun n=>c4t ?_ (ag an r1 g3 M n)⟩;rintro e w2 ⟨p,z,G2,rfl,ar,au,N,av,aQ,aw⟩;refine⟨.bool p.isNone,vars.set (varsOf fn c).length (gOf p),z,.bool p.isNone,G2,rfl,ar,fun k O=>?_,au,N,a1l,⟨p,?_,g2.trans N,av,i9⟩,fun aR hd=>aw _ _ hd⟩
            . grind
            . unfold Y1;rw[u9,F8 i9];rfl
         refine b3W (FN:=fnY P l (varsOf fn c).length Y q) hm (a5n ac) rfl rfl ak c (c9Z r (by rw[c5D];exact C)) off k ae r (fun e vs h=>(match e with| .exit _=>False|_=>True)∧∃p,vs.getD (varsOf fn c).length .uu=gOf p∧K p h) _ _ _ _ _ (by have:=E l (fun e vs h=>(match e with| .exit _=>False|_=>True)∧∃p,vs.getD (varsOf fn c).length .uu=gOf p∧K p h) (fun p vs h d j=>⟨trivial,p,d,j⟩) (fun p vs h d j=>⟨trivial,p,d,j⟩);rw[a0E]at this;exact this) hi fun e vars h a w' ax he=>?_
         obtain⟨ay,p,az,aA⟩:=he;have key:LeavesInM (fz none) 0 P fn a.tmps (fun e w'=>∃u p h' G',e=.returned u∧K p h'∧s6 B Z0 G' h' w'∧Ext G0 h0 w G' h' w'∧t p G' h' w') a.defers .returning w':=by
          obtain⟨G,R,aB,aS,⟨Ds,d1,d2,d3⟩,S,g1,g2,g3,g4⟩:=ax;have aC:S=p:=b6o (by rw[←g1];exact az);subst aC;rw[d2];refine a9l (m:=w.heap.size) Ds w' d1 d3 fun T hs=>?_;obtain⟨U,V⟩:=R.cells (w':=T) (by rw[hs.size];exact m9 _) hs.cells;have aD:X0 G h T (varsOf fn c) vars a:=fun k s O=>by obtain⟨v,h1,z⟩:=aB k s O;exact⟨v,h1,z.ext V⟩
          obtain⟨u,aE,_⟩:=a9Q (P:=P) (fn:=fn) U aD Z (l:=[]) rfl;exact⟨u,aE,u,S,h,G,rfl,aA,U,g2.trans V,y R g3 hs⟩
         cases e with
         |normal=>exact key
         |ret=>exact key
         |exit id=>exact ay.elim
       . cases b
     . cases b
end
theorem b2u{FN:N7}{ps:List (Option Nat)}{a b:C7}{vs:List PV}:a8h (a5J FN ps a b vs):=fun _ _ _ _ d c=>
 ⟨c.1,b0W (fun e vs h he=>by
  cases e with
  |normal=>exact b0W (fun e vs h he=>d _ _ he) (show Xw FN b _ vs h from he)
  |exit id=>exact he.elim
  |ret=>exact he.elim) c.2⟩
section
variable{P:Program}{Q:J1}{vs:List PV}{h:l7}
theorem b2o(hm:P.follows .mixedOrders=true){f:FuncId}{off s0:Nat}{X:u7}(d:O1 P f off=some {X with sites:=s0,body:=I1 X.body})(e:X.results=[])(g:noX X.body=true){cap:List PV}{ps:List (Option Nat)}{a b:C7}(hlen:cap.length+1≤X.ntmps)(i:cap.all one=true)
 (j:∀(l:Nat) (Q2:J1),(∀p c h,c.getD X.vars.length .uu=gOf p→Q (unp p) vs h→Q2 .ret c h)→(∀p c h,c.getD X.vars.length .uu=gOf p→Q (unp p) vs h→Q2 .normal c h)→
  Xw (fnY P l X.vars.length (a5J (fns P) ps a b vs) b2u) X.body Q2 ((X.vars.map fun s=>(.fn (.yield l) [] []::cap).getD s .uu)++[gOf none]) h):
 Xi (fns P) (.fn (.func f) [] cap) ps a b Q vs h:=b9W hm d e g b2u hlen i j
theorem a4O{l n:Nat}{Y:YT}{hm:a8h Y}{args:List PV}{var:Option Nat}{xs:List l6}{loc:List PV}{K:B5→Prop}(h1:vs.getD n .uu=gOf none)(a:vs.length=n+1)
 (b:Y args h fun p h'=>h'.length=h.length∧Xr (fnY P l n Y hm) xs ⟨loc++[.bool p.isNone],K0 (vs.set n (gOf p)) var (.bool p.isNone),h'⟩ K):Xy (fnY P l n Y hm) (.fn (.yield l) [] []) args var xs ⟨loc,vs,h⟩ K:=.inr ⟨rfl,h1,a,b⟩
end
section
section
variable{k g o gl l K G V I J i j ver:Nat}{es cs a c vs ks:List PV}{s:ByteArray}{n:Int}{b:Bool}{v:Value}{f:Go.Fn}
@[simp] theorem d1r:A9 (.bool b)=true:=rfl
@[simp] theorem d2N{k:IntKind}:A9 (.int k n)=true:=rfl
@[simp] theorem d1l:A9 (.str s)=true:=rfl
@[simp] theorem d0Z:A9 (.lit v)=true:=rfl
@[simp] theorem d0D:A9 (.nils)=false:=rfl
@[simp] theorem d1p:A9 (.slc es)=true:=rfl
@[simp] theorem d2n{s:Nat}:A9 (.own k g gl s o l)=false:=rfl
@[simp] theorem d2w:A9 (.ptr k g o)=false:=rfl
@[simp] theorem d2l{s:Nat}:A9 (.eptr k g gl s i j)=false:=rfl
@[simp] theorem d2a:A9 (.fptr cs)=true:=rfl
@[simp] theorem d1R:A9 .ne=false:=rfl
@[simp] theorem d1I:I5 (.bool b)=false:=rfl
@[simp] theorem d2t{k:IntKind}:I5 (.int k n)=false:=rfl
@[simp] theorem d2e:I5 (.str s)=false:=rfl
@[simp] theorem d2c:I5 (.nils)=true:=rfl
@[simp] theorem d3a:I5 (.slc es)=false:=rfl
@[simp] theorem d3f:I5 (.uslc es)=true:=rfl
@[simp] theorem d2Q{s:Nat}:I5 (.own k g gl s o l)=false:=rfl
@[simp] theorem d1W:I5 .ne=false:=rfl
@[simp] theorem d0N:one (.bool b)=true:=rfl
@[simp] theorem d1x{k:IntKind}:one (.int k n)=true:=rfl
@[simp] theorem d2v:one (.str s)=true:=rfl
@[simp] theorem d3w:one (.lit v)=true:=rfl
@[simp] theorem d1c:one (.nils)=true:=rfl
@[simp] theorem d2L:one (.slc es)=true:=rfl
@[simp] theorem d0S{s:Nat}:one (.own k g gl s o l)=true:=rfl
@[simp] theorem d2A:one (.ptr k g o)=true:=rfl
@[simp] theorem d0u{s:Nat}:one (.eptr k g gl s i j)=true:=rfl
@[simp] theorem d2E:one (.fptr cs)=true:=rfl
@[simp] theorem d1L:one (.agg cs)=false:=rfl
@[simp] theorem d1G:one (.fn f a c)=(a.all Y8&&c.all Y8):=rfl
@[simp] theorem d2f:Y8 (.ptr k g o)=true:=rfl
@[simp] theorem d2q:isStr (.str s)=true:=rfl
@[simp] theorem d1a:isStr (.nils)=false:=rfl
@[simp] theorem d3h:isStr (.slc es)=false:=rfl
@[simp] theorem d2C{s:Nat}:isStr (.own k g gl s o l)=false:=rfl
@[simp] theorem d1S:isStr (.nown k g ver i j o l)=false:=rfl
@[simp] theorem d1g:isStr .ne=false:=rfl
@[simp] theorem d1y:a9N (.nils)=false:=rfl
@[simp] theorem d3k{s:Nat}:a9N (.own k g gl s o l)=true:=rfl
@[simp] theorem d2z:a9N .ne=false:=rfl
@[simp] theorem d2Y:l9 (.bool b)=[.bool b]:=rfl
@[simp] theorem d3t:a0k (.bool b)=[.bool b]:=rfl
@[simp] theorem d1E:B4 (.bool b)=(.bool b):=rfl
@[simp] theorem d2s:D5 (.bool b)=true:=rfl
@[simp] theorem d2H:ldC K G V I J (.bool b)=(.bool b):=rfl
@[simp] theorem d0G:a2U (.bool b)=true:=rfl
@[simp] theorem d3v{k:IntKind}:l9 (.int k n)=[.int k n]:=rfl
@[simp] theorem d2F{k:IntKind}:a0k (.int k n)=[.int k n]:=rfl
@[simp] theorem d2j{k:IntKind}:K8 (.int k n)=(.int k n):=rfl
@[simp] theorem d0H{k:IntKind}:B4 (.int k n)=(.int k n):=rfl
@[simp] theorem d2d{k:IntKind}:D5 (.int k n)=true:=rfl
@[simp] theorem d2O{k:IntKind}:ldC K G V I J (.int k n)=(.int k n):=rfl
@[simp] theorem d0v{k:IntKind}:a6f (.int k n)=true:=rfl
@[simp] theorem d1X{k:IntKind}:a2U (.int k n)=true:=rfl
@[simp] theorem d0w:l9 (.str s)=[.str s]:=rfl
@[simp] theorem d1H:a0k (.str s)=[.str s]:=rfl
@[simp] theorem d0E:K8 (.str s)=(.str s):=rfl
@[simp] theorem d2r:B4 (.str s)=(.str s):=rfl
@[simp] theorem d1b:D5 (.str s)=true:=rfl
@[simp] theorem d3b:ldC K G V I J (.str s)=(.str s):=rfl
@[simp] theorem d3q:a6f (.str s)=true:=rfl
@[simp] theorem d0F:a2U (.str s)=true:=rfl
@[simp] theorem d1K:l9 (.nils)=[.nils]:=rfl
@[simp] theorem d1P:B4 (.nils)=(.slc []):=rfl
@[simp] theorem d3o:D5 (.nils)=true:=rfl
@[simp] theorem d3m:ldC K G V I J (.nils)=(.nils):=rfl
@[simp] theorem d1O:a2U (.nils)=true:=rfl
@[simp] theorem d0Y:l9 (.slc es)=[.slc es]:=rfl
@[simp] theorem d2I:a0k (.slc es)=[.slc es]:=rfl
@[simp] theorem d2o:K8 (.slc es)=(.slc es):=rfl
@[simp] theorem d1U:B4 (.slc es)=(.slc es):=rfl
@[simp] theorem d3l:D5 (.slc es)=true:=rfl
@[simp] theorem d0U:ldC K G V I J (.slc es)=(.slc es):=rfl
@[simp] theorem d3d:a2U (.slc es)=false:=rfl
@[simp] theorem d0O:l9 (.uslc es)=[.uslc es]:=rfl
@[simp] theorem d3u:a0k (.uslc es)=[.uslc es]:=rfl
@[simp] theorem d1F:K8 (.uslc es)=(.slc es):=rfl
@[simp] theorem d0x:ldC K G V I J (.uslc es)=(.nown K G V I J 0 es.length):=rfl
@[simp] theorem d0B:a2U (.uslc es)=(es.all fun e=>(l9 e).all a6f):=rfl
@[simp] theorem d1s{s:Nat}:l9 (.own k g gl s o l)=[.own k g gl s o l]:=rfl
@[simp] theorem d3c{s:Nat}:a0k (.own k g gl s o l)=[.own k g gl s o l]:=rfl
@[simp] theorem d1M{s:Nat}:ldC K G V I J (.own k g gl s o l)=(.own k g gl s o l):=rfl
@[simp] theorem d3e:l9 (.ptr k g o)=[.ptr k g o]:=rfl
@[simp] theorem d3r:ldC K G V I J (.ptr k g o)=(.ptr k g o):=rfl
@[simp] theorem d2k{s:Nat}:l9 (.eptr k g gl s i j)=[.eptr k g gl s i j]:=rfl
@[simp] theorem d1C:l9 (.fptr cs)=[.fptr cs]:=rfl
@[simp] theorem d2y:a0k (.fptr cs)=[.fptr cs]:=rfl
@[simp] theorem d1h:a2U (.fptr cs)=false:=rfl
@[simp] theorem d0L:l9 (.agg cs)=cs:=rfl
@[simp] theorem d2U:a0k (.agg cs)=[.agg cs]:=rfl
@[simp] theorem d1e:B4 (.agg cs)=(.agg (cs.map K8)):=rfl
@[simp] theorem d1w:D5 (.agg cs)=(cs.all fun c=>A9 c||I5 c):=rfl
@[simp] theorem d3i:a0k (.tup vs)=vs:=rfl
@[simp] theorem d2Z:l9 (.fn f a c)=[.fn f a c]:=rfl
@[simp] theorem d0R:l9 .ne=[.ne]:=rfl
@[simp] theorem d3s:ldC K G V I J .ne=.ne:=rfl
@[simp] theorem d1z:A9 (.N3 ks vs)=true:=rfl
@[simp] theorem d0K:one (.mapv k g)=true:=rfl
@[simp] theorem d3g:l9 (.mapv k g)=[.mapv k g]:=rfl
end
end
theorem b4r{p:PV→Prop}(l:List Bool)(h:∀b,p (.bool b)):∀x,x∈List.map PV.bool l→p x:=fun x a=>by obtain⟨b,_,rfl⟩:=E5.1 a;exact h b
@[simp ↓] theorem d0J(l:List Bool):(∀x,x∈List.map PV.bool l→D5 x=true)=True:=eq_true (b4r l fun _=>rfl)
@[simp] theorem d1u:B4∘PV.bool=PV.bool:=rfl
@[simp] theorem d1Y(k:IntKind):B4∘PV.int k=PV.int k:=rfl
@[simp] theorem d2J{α β:Type}(f:α→β)(l:List α):List.take l.length (List.map f l)=List.map f l:=S7 l5
attribute [simp] c3B a3m c7k c9r c7S a6B a9n unp c9g c4J c8i c5p c5P c6Q c6s g_f g_t c2K c8d c3p b5o b8Q b8L c7R c3l c9S c2I c2v c1O c4d c5U c9T e_mv c2B c9F c4n c8G c4u c7n c7A c2y c9R c3t c8W e_un c2C c5o c3V c3G c1s c4z c2p c6U c7y c4N c7o c9N c7M c4Y c5N c3u c1P c5v c5k c8l c4H c7E d0e c6H a9H c9D c9m c8t c7z c3F c4f c5y
attribute [simp] S5 a3V ghI a8k a8F b0j b0Y a3d a2a a2f avO a9L a9T a6R a6U gdO y9 B3 K0 b0J a6G unP p8 a2k I0 l8 a0w a2B b0u a4g a7q sliceB asInt a1M fzV fzC fzP settled sKs b3N b3O b6b a8p c1e ren a8q a0q b0e a5U a3E sVs sOk a3f fin a2P a8c a8P a3S rvV rvE rvC a0i a4c rOk B9 J9 a2c a5i fzO a4u W8 a0e a4e noS O0 Z4 a1x a1T Z9 a2h N1 a5b a4l a2m a7y a3C a1Q a2N a8m a1N a9r a4S a7c a3T a6m a2x kill a1R a6Y N0 a4i reE a5T a9P a6k a7j eqC a4X b0U a1L a1g a0t fn0 mvS mvR a7p a3L a7i a6v a5t List.idxOf?_cons List.idxOf?_nil
open Go.ChangeShapes Go.WideShapes Go.ChangeAt Go.RowKit Go.Deep
inductive Sh where
 |bool
 |int(k:IntKind)
 |str
 |slc(e:Sh)
 |agg(f:Sh)
 |fd(a r:Sh)
 |en
abbrev Sh.T:Sh→Type
 | .bool=>Bool
 | .int _=>Int
 | .str=>ByteArray
 | .slc e=>List e.T
 | .agg f=>f.T
 | .fd a r=>a.T×r.T
 | .en=>Unit
def Sh.b0H:Sh→List PV→PV
 | .agg _,cs=>.agg cs
 |_,cs=>cs.headD .uu
def Sh.cells:(s:Sh)→s.T→List PV
 | .bool,b=>[.bool b]
 | .int k,n=>[.int k n]
 | .str,s=>[.str s]
 | .slc e,xs=>[.slc (List.map (fun x=>e.b0H (e.cells x)) xs)]
 | .agg f,x=>f.cells x
 | .fd a r,x=>a.cells x.1++r.cells x.2
 | .en,_=>[]
def Sh.pv(s:Sh)(x:s.T):PV:=s.b0H (s.cells x)
def Sh.ok:(s:Sh)→s.T→Prop
 | .bool,_=>True
 | .int k,n=>(Lit.int k n).wf=true
 | .str,s=>s.size≤maxLen
 | .slc e,xs=>List.length xs≤maxLen∧∀x∈(show List e.T from xs),e.ok x
 | .agg f,x=>f.ok x
 | .fd a r,x=>a.ok x.1∧r.ok x.2
 | .en,_=>True
def Sh.pvs:(s:Sh)→s.T→List PV
 | .fd a r,x=>a.pv x.1::r.pvs x.2
 |_,_=>[]
def shF(P:Program)(b:TypeId→Sh→Bool)(c:Nat):List Field→Nat→Sh→Bool
 | [],acc,.en=>acc==c
 |fd::d,acc,.fd a r=>fd.offset==acc&&b fd.type a&&shF P b c d (acc+P.cellsOf fd.type) r
 |_,_,_=>false
def shA(b:TypeId→Sh→Bool)(sz c:Nat)(e:TypeId):Nat→Nat→Sh→Bool
 |0,i,.en=>i*sz==c
 |m+1,i,.fd a r=>b e a&&shA b sz c e m (i+1) r
 |_,_,_=>false
def shp(P:Program):Nat→TypeId→Sh→Bool
 |0,_,_=>false
 |n+1,t,s=>match P.underlying t,s with
  |some .bool,.bool=>true
  |some (.int k),.int a=>decide (k=a)
  |some .string,.str=>true
  |some (.slice e),.slc b=>shp P n e b&&Nat.blt 0 (P.cellsOf e)
  |some (.struct c),.agg f=>shF P (shp P n) (P.cellsOf t) c.toList 0 f
  |some (.array m e),.agg f=>shA (shp P n) (P.cellsOf e) (P.cellsOf t) e m 0 f
  |_,_=>false
def shL(P:Program)(n:Nat):List TypeId→Sh→Bool
 | [],.en=>true
 |t::ts,.fd a r=>shp P n t a&&shL P n ts r
 |_,_=>false
def a1i(Z:Nat→Prop)(w:World):List Value→List PV→Prop
 | [],[]=>True
 |v::vs,c::cs=>(one c=true∧PR Z w v c)∧a1i Z w vs cs
 |_,_=>False
theorem a1i.len{Z:Nat→Prop}{w:World}:∀{vs:List Value} {cs:List PV},a1i Z w vs cs→vs.length=cs.length
 | [],[],_=>rfl
 |_::vs,_::cs,h=>by simp[a1i.len h.2]
 | [],_::_,h=>h.elim
 |_::_,[],h=>h.elim
theorem a1i.get{Z:Nat→Prop}{w:World}:∀{vs:List Value} {cs:List PV},a1i Z w vs cs→∀(i:Nat) c,cs[i]?=some c→one c=true∧∃u,vs[i]?=some u∧PR Z w u c
 | [],[],_,i,c,h=>by simp at h
 |v::vs,c0::cs,h,0,c,a=>by simp at a;subst a;exact⟨h.1.1,v,rfl,h.1.2⟩
 |v::vs,c0::cs,h,i+1,c,a=>by
  have:=a1i.get h.2 i c (by simpa using a);simpa using this
 | [],_::_,h,_,_,_=>h.elim
 |_::_,[],h,_,_,_=>h.elim
theorem a1i.append{Z:Nat→Prop}{w:World}:∀{vs us:List Value} {cs a:List PV},a1i Z w vs cs→a1i Z w us a→a1i Z w (vs++us) (cs++a)
 | [],_,[],_,_,h=>h
 |_::_,_,_::_,_,h,h'=>⟨h.1,a1i.append h.2 h'⟩
 | [],_,_::_,_,h,_=>h.elim
 |_::_,_,[],_,h,_=>h.elim
theorem b8M{α:Type}{p:Nat→α→Prop}:∀{n:Nat},(∀i,i<n→∃x,p i x)→∃l:List α,l.length=n∧∀(i:Nat) x,l[i]?=some x→p i x
 |0,_=>⟨[],rfl,l5⟩
 |n+1,h=>by
  obtain⟨l,h1,a⟩:=b8M (n:=n) fun i hi=>h i i9;obtain⟨x,b⟩:=h n i9;refine⟨l++[x],by simp[h1],fun i y c=>?_⟩
  grind
theorem c5I{w:World}{a:Addr}{v:Value}(h:w.cell? a=some v):W4 w a.block:=by obtain⟨o,h1,b⟩:=cells_of_cell h;cases o<;>first|exact W4.of h1|cases b
theorem c3E{P:Program}{n:Nat}{t:TypeId}{s:Sh}(h:shp P n t s=true)(x:s.T):l9 (s.b0H (s.cells x))=s.cells x:=by
 cases n with
 |zero=>simp[shp]at h
 |succ n=>
  cases s<;>simp[Sh.b0H,Sh.cells,l9]
  all_goals (simp only[shp]at h;split at h<;>first|contradiction|simp_all)
section
variable{H:Type}{enc:TypeId×Value→H}{P:Program}{w:World}{sp:Nat→Bool}
abbrev Zw(w:World):Nat→Prop:=fun b=>W4 w b
theorem c0F{d:TypeId→Sh→Bool}{fuel c:Nat}{cs:List Value}(e:∀(s:Sh) (t:TypeId) (cs:List Value) x,d t s=true→DataW.trod enc P w 0 sp true fuel t cs=some x→∃y:s.T,s.ok y∧a1i (Zw w) w cs (s.cells y))(hlen:cs.length=c):
 ∀(b:List Field) (acc:Nat) (f:Sh) (r:List (DataW H×List MemPlace)),shF P d c b acc f=true→b.mapM (fun g=>DataW.trod enc P w 0 sp true fuel g.type ((cs.drop g.offset).take (P.cellsOf g.type)))=some r→∃y:f.T,f.ok y∧a1i (Zw w) w (cs.drop acc) (f.cells y)
 | [],acc,f,r,h,_=>by
  cases f<;>simp only[shF]at h<;>first|contradiction|skip
  refine⟨(),trivial,?_⟩;have:acc=c:=by simpa using h
  subst this;rw[←hlen,List.drop_length];exact trivial
 |fd::b,acc,f,r,h,hm=>by
  cases f<;>simp only[shF]at h<;>first|contradiction|skip
  rename_i a j;simp only[G4,beq_iff_eq]at h;obtain⟨⟨h1,k⟩,l⟩:=h;obtain⟨x,i⟩:=mapM_each hm fd l5;rw[List.mapM_cons]at hm;rw[i]at hm;cases hr:b.mapM (fun g=>DataW.trod enc P w 0 sp true fuel g.type ((cs.drop g.offset).take (P.cellsOf g.type)))with
  |none=>simp[hr]at hm
  |some m=>
   obtain⟨n,o,c1⟩:=e _ _ _ _ k i;obtain⟨p,q,c2⟩:=c0F e hlen b _ j m l hr;refine⟨(n,p),⟨o,q⟩,?_⟩;have:=c1.append c2;rw[h1]at this;rw[show cs.drop acc=(cs.drop acc).take (P.cellsOf fd.type)++cs.drop (acc+P.cellsOf fd.type)by rw[←a2X,a9y]];exact this
theorem b4T{d:TypeId→Sh→Bool}{fuel b:Nat}{e:TypeId}{cs:List Value}(g:∀(s:Sh) (t:TypeId) (cs:List Value) x,d t s=true→DataW.trod enc P w 0 sp true fuel t cs=some x→∃y:s.T,s.ok y∧a1i (Zw w) w cs (s.cells y))(hlen:cs.length=b):
 ∀(m i:Nat) (f:Sh),shA d (P.cellsOf e) b e m i f=true→(∀j,j<m→∃x,DataW.trod enc P w 0 sp true fuel e ((cs.drop ((i+j)*P.cellsOf e)).take (P.cellsOf e))=some x)→∃y:f.T,f.ok y∧a1i (Zw w) w (cs.drop (i*P.cellsOf e)) (f.cells y)
 |0,i,f,h,_=>by
  cases f<;>simp only[shA]at h<;>first|contradiction|skip
  refine⟨(),trivial,?_⟩;have:i*P.cellsOf e=b:=by simpa using h
  rw[this,←hlen,List.drop_length];exact trivial
 |m+1,i,f,h,hm=>by
  cases f<;>simp only[shA]at h<;>first|contradiction|skip
  rename_i a k;simp only[G4]at h;obtain⟨l,n⟩:=h;obtain⟨x,c⟩:=hm 0 i9;obtain⟨o,p,c1⟩:=g _ _ _ _ l c;obtain⟨q,r,c2⟩:=b4T g hlen m (i+1) k n fun j hj=>by obtain⟨x,c⟩:=hm (j+1) i9;exact⟨x,by rw[show i+1+j=i+(j+1)by omega];exact c⟩
  refine⟨(o,q),⟨p,r⟩,?_⟩;have:=c1.append c2;rw[a4B]at this;rw[show cs.drop (i*P.cellsOf e)=(cs.drop (i*P.cellsOf e)).take (P.cellsOf e)++cs.drop ((i+1)*P.cellsOf e)by rw[O4,Nat.one_mul,←a2X,a9y]];exact this
theorem c3v:∀(n:Nat) (s:Sh) (t:TypeId) (fuel:Nat) (cs:List Value) (x:DataW H×List MemPlace),shp P n t s=true→DataW.trod enc P w 0 sp true fuel t cs=some x→∃y:s.T,s.ok y∧a1i (Zw w) w cs (s.cells y):=by
 intro n
 induction n with
 |zero=>intro s t fuel cs x h;simp[shp]at h
 |succ n E=>
  intro s t fuel cs x h d;simp only[shp]at h;cases fuel with
  |zero=>simp[DataW.trod]at d
  |succ fuel=>
   split at h
   . rename_i hu;obtain⟨b,rfl⟩:∃b,cs=[.bool b]:=by
      unfold DataW.trod at d;rw[hu]at d;split at d<;>simp_all
     exact⟨b,trivial,⟨rfl,0,rfl⟩,trivial⟩
   . rename_i k R hu;obtain rfl:k=R:=(by simpa using h);obtain⟨m,rfl,hw⟩:∃m,cs=[.int k m]∧(Lit.int k m).wf=true:=by
      unfold DataW.trod at d;rw[hu]at d;split at d<;>simp_all
     exact⟨m,hw,⟨rfl,0,rfl⟩,trivial⟩
   . rename_i hu;obtain⟨b,rfl,hw⟩:∃b,cs=[.string b]∧b.size≤maxLen:=by
      unfold DataW.trod at d;rw[hu]at d;split at d<;>simp_all
     exact⟨b,hw,⟨rfl,0,rfl⟩,trivial⟩
   . rename_i e F hu;simp only[G4]at h;obtain⟨h1,A⟩:=h;have A:0<P.cellsOf e:=(by simpa using A);rcases open_slice hu d with⟨rfl,_⟩|⟨a,len,cap,m,Y,D,Pl,rfl,_,S,G,hm,_,T⟩
     . refine⟨[],⟨l5,l5⟩,⟨rfl,?_⟩,trivial⟩;exact PR.U8.2 ⟨none,0,0,l5,l5,by simp[maxLen],l5,l5⟩
     . have Z:len≤m:=(by rw[hm];split<;>omega);obtain⟨l,l1,I⟩:=b8M (α:=F.T) (p:=fun i y=>F.ok y∧∃o,w.cells? 0 (a.add (i*P.cellsOf e)) (P.cellsOf e)=some o∧a1i (Zw w) w o (F.cells y)) (n:=len) fun i hi=>by
        obtain⟨o,q,B⟩:=T i i9;obtain⟨y,v,z⟩:=E _ _ _ _ _ h1 B;exact⟨y,v,o,q,z⟩
       refine⟨l,⟨by rw[l1];omega,fun y C=>?_⟩,⟨rfl,?_⟩,trivial⟩
       . obtain⟨i,hi⟩:=List.mem_iff_getElem?.1 C;exact(I i y hi).1
       . refine PR.U8.2 ⟨some a,cap,P.cellsOf e,by simp[l1],by simp[l1];exact S,G,l5,fun i p hp=>?_⟩;rw[H6]at hp;obtain⟨y,C,rfl⟩:=D0.1 hp;obtain⟨_,o,q,B⟩:=I i y C;rw[c3E h1];unfold World.cells? at q;simp only[D6,if_true]at q;have N:o.length=P.cellsOf e:=(by rw[mapM_some_length q,List.length_range]);have O:∀j,j<P.cellsOf e→w.cell? ((a.add (i*P.cellsOf e)).add j)=o[j]?:=fun j hj=>mapM_some_get q j j (by simp[hj]);have J:=O 0 A;rw[m7 i9]at J;have hs:=World.cell?_spot J;have Q:=c5I J;refine⟨by rw[←B.len,N],a.block,a.off,?_,?_,fun j c G=>?_⟩
         . by_cases hi:i*P.cellsOf e=0
           . rw[hi]at hs;simp[Addr.add]at hs;cases a;simp_all
           . have aa:i≠0:=(by rintro rfl;simp at hi);obtain⟨K,U⟩:∃K,l[0]?=some K:=⟨l[0]'(by have:=(B8.1 C).1;omega),m7 _⟩
             obtain⟨_,V,f1,_⟩:=I 0 K U;unfold World.cells? at f1;simp only[D6,if_true]at f1;have f2:=mapM_some_get f1 0 0 (by simp[A]);have f3:V.length=P.cellsOf e:=(by rw[mapM_some_length f1,List.length_range]);rw[m7 i9]at f2;have:=World.cell?_spot f2;simp[Addr.add]at this;cases a;simp_all
         . have:((a.add (i*P.cellsOf e)).add 0).block=a.block:=(by unfold Addr.add;split<;>split<;>rfl);rw[this]at Q;exact Q
         . obtain⟨g1,u,g2,g3⟩:=B.get j c G;have hj:j<P.cellsOf e:=(by rw[←N];exact(B8.1 g2).1);refine⟨g1,u,?_,g3⟩;have L:=O j hj;rw[g2]at L;have M:=World.cell?_spot L;rw[←L];congr 1;rw[Go.Deep.add_add]at M⊢;unfold Addr.add at M⊢;split
           . rename_i W;rw[if_pos W]at M;cases a;simp_all
           . rfl
   . rename_i X f hu;unfold DataW.trod at d;rw[hu]at d;simp only at d;split at d
     . rename_i hlen;cases hr:X.toList.mapM (fun g=>DataW.trod enc P w 0 sp true fuel g.type ((cs.drop g.offset).take (P.cellsOf g.type)))with
       |none=>rw[hr]at d;simp at d
       |some r=>
        obtain⟨y,v,z⟩:=c0F (fun s t cs x a b=>E s t fuel cs x a b) hlen _ _ _ r h hr;exact⟨y,v,by simpa[Sh.cells]using z⟩
     . cases d
   . rename_i m e f hu;unfold DataW.trod at d;rw[hu]at d;simp only at d;split at d
     . rename_i hlen;cases hr:(List.range m).mapM (fun i=>DataW.trod enc P w 0 sp true fuel e ((cs.drop (i*P.cellsOf e)).take (P.cellsOf e)))with
       |none=>rw[hr]at d;simp at d
       |some r=>
        obtain⟨y,v,z⟩:=b4T (fun s t cs x a b=>E s t fuel cs x a b) hlen m 0 f h fun j hj=>mapM_each hr (0+j) (by simpa using hj);exact⟨y,v,by simpa[Sh.cells]using z⟩
     . cases d
   . cases h
theorem b5Y{Z:Nat→Prop}{v:Value}{c:PV}(h1:one c=true)(h:PR Z w v c)(n:Nat)(a:0<n:=by decide):j8 (G0 Z) [] w n v c:=one_cell h1 (a1H (G:=G0 Z) h1 h) a
theorem c0T{Z:Nat→Prop}{vs:Array Value}{cs:List PV}(h:a1i Z w vs.toList cs)(n:Nat)(a:0<n:=by decide):J4 (j8 (G0 Z) [] w n) vs cs:=
 ⟨by have:=h.len;simpa using this,fun i c b=>by obtain⟨h1,u,d,e⟩:=h.get i c b;exact⟨u,by simpa using d,b5Y h1 e n a⟩⟩
theorem c2S{n:Nat}{s:Sh}{t:TypeId}{v:Value}{d:DataW H}{ps:List MemPlace}{base:Nat}(hs:shp P n t s=true)(a:Value.okWide P w .any base t v)(hd:DataW.Trod enc P w 0 sp true t v d ps):∃y:s.T,s.ok y∧j8 (G0 (Zw w)) [] w D v (s.pv y):=by
 obtain⟨fuel,hd⟩:=hd;obtain⟨y,e,b⟩:=c3v n s t fuel _ _ hs hd;refine⟨y,e,?_⟩;cases n with
 |zero=>simp[shp]at hs
 |succ n=>
  simp only[shp]at hs;have single:∀c,s.cells y=[c]→s.pv y=c→(∀cs,v≠ .agg cs)→j8 (G0 (Zw w)) [] w D v (s.pv y):=by
   intro c h1 f g;have:v.cells.toList=[v]:=by cases v<;>first|rfl|exact absurd rfl (g _)
   rw[this,h1]at b;rw[f];exact b5Y b.1.1 b.1.2 _
  split at hs
  . rename_i hu;exact single _ rfl rfl (by rintro cs rfl;simp[Value.okWide,hu,Cell.okWide,Cell.ok]at a)
  . rename_i hu;exact single _ rfl rfl (by rintro cs rfl;simp[Value.okWide,hu,Cell.okWide,Cell.ok]at a)
  . rename_i hu;exact single _ rfl rfl (by rintro cs rfl;simp[Value.okWide,hu,Cell.okWide,Cell.ok]at a)
  . rename_i hu;exact single _ rfl rfl (by rintro cs rfl;simp[Value.okWide,hu,Cell.okWide,Cell.ok]at a)
  . rename_i hu;unfold Value.okWide at a;rw[hu]at a;obtain⟨cs,rfl,_,_⟩:=a;show j8 _ _ _ (5+1) _ (.agg _);unfold j8;exact⟨cs,rfl,c0T b 5⟩
  . rename_i hu;unfold Value.okWide at a;rw[hu]at a;obtain⟨cs,rfl,_,_⟩:=a;show j8 _ _ _ (5+1) _ (.agg _);unfold j8;exact⟨cs,rfl,c0T b 5⟩
  . cases hs
theorem b9L{n base:Nat}:∀{ts:List TypeId} {F:Sh} {vs:List Value} {f:List (DataW H)} {ps:List MemPlace},shL P n ts F=true→(∀(j:Nat) t v,ts[j]?=some t→vs[j]?=some v→Value.okWide P w .any base t v)→DataW.TrodAll enc P w 0 sp true ts vs f ps→
 ∃y:F.T,F.ok y∧vs.length=(F.pvs y).length∧∀(i:Nat) c,(F.pvs y)[i]?=some c→∃u,vs[i]?=some u∧j8 (G0 (Zw w)) [] w D u c
 | [],F,vs,f,ps,h,_,g=>by
  cases F<;>simp only[shL]at h<;>first|contradiction|skip
  obtain⟨rfl,rfl,rfl⟩:=trodAll_nil g;exact⟨(),trivial,rfl,by simp[Sh.pvs]⟩
 |t::ts,F,vs,f,ps,h,k,g=>by
  cases F<;>simp only[shL]at h<;>first|contradiction|skip
  rename_i a r;simp only[G4]at h;obtain⟨v,vs',d,z,p,q,rfl,rfl,rfl,h1,l⟩:=trodAll_cons g;obtain⟨m,o,c1⟩:=c2S h.1 (k 0 t v rfl rfl) h1;obtain⟨s,x,c2,c3⟩:=b9L h.2 (fun j t v a b=>k (j+1) t v (by simpa using a) (by simpa using b)) l;refine⟨(m,s),⟨o,x⟩,by simp[Sh.pvs,c2],fun i c e=>?_⟩;cases i with
  |zero=>simp[Sh.pvs]at e;subst e;exact⟨v,rfl,c1⟩
  |succ i=>simp[Sh.pvs]at e;simpa using c3 i c e
theorem b6K{w':World}(e:laidOutB P=true)(hb:Below w.heap.size w w'):∀{ts:List TypeId} {vs:List Value} {a:List (DataW H)} {ps:List MemPlace},ts.all (fun t=>P.readableRec t&&decide (t<P.types.size))=true→DataW.TrodAll enc P w 0 (fun _=>true) true ts vs a ps→DataW.TrodAll enc P w' 0 (fun b=>decide (b<w.heap.size)) true ts vs a ps
 | [],vs,a,ps,_,c=>by
  obtain⟨rfl,rfl,rfl⟩:=trodAll_nil c;rfl
 |t::ts,vs,a,ps,h,c=>by
  obtain⟨v,vs',d,i,p,q,rfl,rfl,rfl,h1,f⟩:=trodAll_cons c;simp only[List.all_cons,G4,decide_eq_true_eq]at h;have g:∀x∈p,x.block<w.heap.size:=by obtain⟨m,hm⟩:=h1;exact DataW.trod_lt m _ _ _ hm
  exact trodAll_cons_mk (Below.trod e h.1.1 h.1.2 h1 hb g) (b6K e hb h.2 f)
end
theorem b7m{H:Type}{enc:TypeId×Value→H}{P:Program}{w:World}{base:Nat}{sp:Nat→Bool}{held:Bool}:∀{ts:List TypeId} {vs:List Value} {a:List (DataW H)} {ps:List MemPlace},DataW.TrodAll enc P w base sp held ts vs a ps→a.length=ts.length
 | [],vs,a,ps,b=>by obtain⟨rfl,rfl,rfl⟩:=trodAll_nil b;rfl
 |t::ts,vs,a,ps,b=>by obtain⟨v,vs',d,e,p,q,rfl,rfl,rfl,h1,c⟩:=trodAll_cons b;simp[b7m c]
theorem c8j{C:Checked}{os:Os}{f:FuncId}{fn:Func}{s:ChangeSpec}{F:Sh}{n:Nat}{rt:TypeId}{conds:List PathCond}{apart:Bool}{H:Type}{enc:TypeId×Value→H}
 (own:ownKnob C.prog.godebug=none) (started:os.Started) (laid:laidOutB C.prog=true) (u:C.prog.inits.idxOf? f=none) (x:C.prog.funcs[f]?=some fn)
 (witness:∃(w:World) (tape:Tape) (i:Input),w.os=os∧(w.forCall tape i).Shaped C.prog∧i.vars=[]∧Input.okWide C.prog (w.forCall tape i) .any w.heap.size f i∧
  s.pre6 enc C.prog fn conds apart (w.forCall tape i).memory i.args∧Assume.holds {} C.prog (lone (Frame.enter C.prog f i.args .normal) [] (w.forCall tape i)))
 (z:shL C.prog n fn.params.toList F=true) (A:fn.params.toList.all (fun t=>C.prog.readableRec t&&decide (t<C.prog.types.size))=true)
 (B:fn.resultTypes= #[rt]) (hb:C.prog.underlying rt=some .bool) (k:s.vars=[])
 (E:∀d:List (DataW H),d.length=fn.params.toList.length→s.fn H (d++[])={results:=[.lit (.bool true)],args:=d})
 (I:∀y:F.T,F.ok y→Fn C.prog f [0] (F.pvs y) (.bool true)):
 ReturnsInHanded {} C os f .any (s.pre6 enc C.prog fn conds apart) (s.post enc C.prog fn apart true false false):=by
 refine returnsInHanded_of_change own started u x witness ?_;intro W base args d gs before J l _ _;have K:=l;obtain⟨p,q,g,m,rfl,_,_⟩:=l;rw[k]at m;obtain⟨rfl,rfl⟩:=trodVars_none m;obtain⟨y,L,M,Q⟩:=b9L (P:=C.prog) (w:=W) (base:=base) z (fun j t v a b=>J j t v (by simpa using a) (by simpa using b)) g;refine((I y L).2 W (Zw W) args (fun _ h=>h) ⟨by simpa using M,fun i c R=>?_⟩).mono fun e W' N=>?_
 . grind
 . obtain⟨v,G,rfl,o,_,r⟩:=N;have O:v=.bool true:=by
    unfold D at r;simpa[Z9,a2h,N1,j8]using r
   subst O;have hs:=E d (b7m g);refine⟨_,rfl,d,[],_,[],p,[],K,?_,?_,?_,o.bl.frame _,fun h=>by cases h⟩
   . rw[hs,B];exact trodAll_mk1 ⟨1,by simp[DataW.trod,hb,Value.cells]⟩
   . rw[hs];exact b6K laid o.bl A g
   . rw[hs,k];rfl
end Go.Proofs.YtbhfgadikmfjdaaGreat.Am
namespace Go.Proofs.YtbhfgadikmfjdaaGreat.T
open Go.Proofs.YtbhfgadikmfjdaaGreat.Am
abbrev By:=List UInt8
abbrev I(n:Int):PV:=.int .i64 n
abbrev U(n:Int):PV:=.int .u8 n
abbrev St(l:By):PV:=.str ⟨⟨l⟩⟩
abbrev UN(c:Nat):PV:=.int .u8 (c:Int)
abbrev IN(c:Nat):PV:=.int .i64 (c:Int)
abbrev CL(l:List Nat):PV:=.slc (l.map UN)
abbrev B(b:Bool):PV:=.bool b
structure O9 where
 print:By
 cells:List Nat
 left:Nat
 right:Nat
 src:Nat
 dst:Nat
 deriving DecidableEq,Inhabited
structure j9 where
 modes:Nat
 accept:Nat
 rules:List O9
 deriving DecidableEq,Inhabited
structure State where
 mode:Nat
 last:Nat
 need:Nat
 deriving DecidableEq,Inhabited
abbrev RP(r:O9):PV:=.agg [St r.print,CL r.cells,UN r.left,UN r.right,IN r.src,IN r.dst]
abbrev TP(t:j9):PV:=.agg [IN t.modes,UN t.accept,.slc (t.rules.map RP)]
abbrev SP(s:State):PV:=.agg [IN s.mode,IN s.last,UN s.need]
def bit(m k:Nat):Bool:=decide (k<8)&&m.testBit k
def P9(b:UInt8):Nat:=b.toNat%128
def a1r(b:UInt8):Nat:=
 if 97≤P9 b∧P9 b≤122 then 1 else if 65≤P9 b∧P9 b≤90 then 2 else if 48≤P9 b∧P9 b≤57 then 3 else if P9 b=32 then 4 else 5
def a0H(b:UInt8):Bool:=decide (32≤P9 b)&&decide (P9 b≤126)
def a5w(r:O9)(s:State):Option State:=
 if r.src≠s.mode∨bit r.left s.last=false then none
 else if r.print=[]then(if s.need&&&r.right=0 then none else some ⟨r.dst,s.last,s.need&&&r.right⟩)
 else if bit s.need (a1r (r.print.headD 0))=false then none
 else some ⟨r.dst,a1r (r.print.getLastD 0),r.right⟩
def step(t:j9)(s:State)(a1p:Nat):Option State:=(t.rules[a1p]?).bind fun r=>a5w r s
def start:State:=⟨0,0,63⟩
def C0(t:j9)(s:State):Bool:=decide (s.mode<t.modes)&&bit t.accept s.mode&&bit s.need 0
def D7:State:=⟨0,0,0⟩
structure OkR(r:O9):Prop where
 print:r.print.length≤1000000
 cells:r.cells.length≤1000000
 cell:∀c∈r.cells,c<256
 left:r.left<256
 right:r.right<256
 src:r.src≤1000000
 dst:r.dst≤1000000
structure OkT(t:j9):Prop where
 modes:t.modes≤1000000
 accept:t.accept<256
 len:t.rules.length≤1000000
 a1p:∀r∈t.rules,OkR r
structure OkS(s:State):Prop where
 mode:s.mode≤1000000
 last:s.last≤5
 need:s.need<256
theorem c2F(b:UInt8):P9 b<128:=a5c _ I7
theorem b0Q(b:UInt8):a1r b≤5:=by unfold a1r;(repeat' split)<;>omega
theorem c6Z:OkS start:=⟨I7,I7,I7⟩
theorem c7T{a b:Nat}(h:a<256):a&&&b<256:=Nat.lt_of_le_of_lt Nat.and_le_left h
@[simp] theorem d0I(l:By):(ByteArray.mk ⟨l⟩).size=l.length:=rfl
@[simp] theorem d0s(a b:By):(ByteArray.mk ⟨a⟩)++(ByteArray.mk ⟨b⟩)=ByteArray.mk ⟨a++b⟩:=by apply ByteArray.ext;simp
@[simp] theorem d3p(a:By)(i j:Nat):(ByteArray.mk ⟨a⟩).extract i j=ByteArray.mk ⟨(a.drop i).take (j-i)⟩:=by apply ByteArray.ext;simp[ByteArray.data_extract,List.extract_eq_take_drop]
@[simp] theorem c_lt(n k:Nat):((n:Int)<(no_index (OfNat.ofNat k):Int))=(n<(OfNat.ofNat k:Nat)):=by apply propext;show((n:Int)<((k:Nat):Int))↔n<k;omega
@[simp] theorem c_gt(n k:Nat):((no_index (OfNat.ofNat k):Int)<(n:Int))=((OfNat.ofNat k:Nat)<n):=by apply propext;show(((k:Nat):Int)<(n:Int))↔k<n;omega
@[simp] theorem c_le(n k:Nat):((n:Int)≤(no_index (OfNat.ofNat k):Int))=(n≤(OfNat.ofNat k:Nat)):=by apply propext;show((n:Int)≤((k:Nat):Int))↔n≤k;omega
@[simp] theorem c_ge(n k:Nat):((no_index (OfNat.ofNat k):Int)≤(n:Int))=((OfNat.ofNat k:Nat)≤n):=by apply propext;show(((k:Nat):Int)≤(n:Int))↔k≤n;omega
@[simp] theorem c_eq(n k:Nat):((n:Int)=(no_index (OfNat.ofNat k):Int))=(n=(OfNat.ofNat k:Nat)):=by apply propext;show((n:Int)=((k:Nat):Int))↔n=k;omega
@[simp] theorem c_eq'(n k:Nat):((no_index (OfNat.ofNat k):Int)=(n:Int))=((OfNat.ofNat k:Nat)=n):=by apply propext;show(((k:Nat):Int)=(n:Int))↔k=n;omega
theorem wrap_ok{n:Int}(h1: -9223372036854775808≤n)(a:n≤9223372036854775807):IntKind.i64.wrap n=n:=by simp[IntKind.wrap,IntKind.signed,IntKind.bits];omega
theorem I9{n:Int}(h1: -9223372036854775808≤n:=by omega)(a:n≤9223372036854775807:=by omega):IntKind.i64.wrap n=n:=wrap_ok h1 a
theorem wk1(k:Nat)(h:(k:Int)+1≤9223372036854775807):IntKind.i64.wrap ((k:Int)+1)=((k+1:Nat):Int):=I9
theorem b0c{n:Int}(h1:0≤n)(a:n≤255):IntKind.u8.wrap n=n:=by simp[IntKind.wrap,IntKind.signed,IntKind.bits];omega
theorem a9m:∀b:UInt8,a4N .u8 (b.toNat:Int) 127=((P9 b:Nat):Int):=by
 intro b;have:∀n:Fin 256,a4N .u8 ((n.val:Nat):Int) 127=((n.val%128:Nat):Int):=by decide+kernel
 exact this ⟨b.toNat,b.toNat_lt⟩
theorem b2v{a b:Nat}(c:a<256)(hb:b<256):a4N .u8 (a:Int) (b:Int)=((a&&&b:Nat):Int):=by have h1:a&&&b<256:=c7T c;show IntKind.u8.wrap ((((BitVec.ofInt 8 (a:Int))&&&(BitVec.ofInt 8 (b:Int)):BitVec 8).toNat:Nat):Int)=_;rw[BitVec.toNat_and,BitVec.ofInt_natCast,BitVec.ofInt_natCast,BitVec.toNat_ofNat,BitVec.toNat_ofNat,Nat.mod_eq_of_lt c,Nat.mod_eq_of_lt hb];exact b0c i9 i9
theorem c1f{m k:Nat}(hm:m<256)(a:k<8):(a4N .u8 ((m:Int).fdiv (2^(min ((k:Int)).toNat 8))) 1==1)=m.testBit k:=by
 have:∀n:Fin 256,∀j:Fin 8,(a4N .u8 (((n.val:Nat):Int).fdiv (2^(min ((j.val:Nat):Int).toNat 8))) 1==1)=n.val.testBit j.val:=by decide+kernel
 exact this ⟨m,hm⟩ ⟨k,a⟩
end Go.Proofs.YtbhfgadikmfjdaaGreat.T
namespace Go.Proofs.YtbhfgadikmfjdaaGreat.Am
def sq:List C7→C7
 | []=>.skip
 | [a]=>a
 |a::b::l=>.seq a (sq (b::l))
section
variable{FN:N7}{Q:J1}{vs:List PV}{h:l7}{a b:C7}{l:List C7}
@[simp] theorem r_sq1:Xw FN (sq [a]) Q vs h=Xw FN a Q vs h:=rfl
@[simp] theorem r_sq:Xw FN (sq (a::b::l)) Q vs h=Xw FN a (a2r (Xw FN (sq (b::l)) Q) Q) vs h:=by show Xw FN (.seq a (sq (b::l))) Q vs h=_;exact b5o
end
abbrev C4(f:Nat)(X:u7):Prop:=a7b Tryz.prog f=some {X with body:=strip X.body}
abbrev F0:=@Am.Fn Tryz.prog
theorem mixW:Tryz.prog.follows .mixedOrders=true:=by kernel_rfl
abbrev E4{f:Nat}{X:u7}(a:C4 f X)(n:Nat){szs:List Nat}{args:List PV}{r:PV}(hlen:args.length≤X.ntmps)(h:∀Q:J1,(∀vs h,fin X.results szs r vs h→Q .ret vs h)→(∀vs h,fin X.results szs r vs h→Q .normal vs h)→Xw (fns Tryz.prog) X.body Q (X.vars.map fun s=>args.getD s .uu) (List.replicate n (0,.dead))):F0 f szs args r:=c5V mixW a n hlen h
theorem p7{α:Type}(e:α):∃x,x=e:=⟨_,rfl⟩
theorem ex1{α:Type}(e:α):∃x,e=x:=⟨_,rfl⟩
theorem C6{f:Nat}{X:u7}(h:a7b Tryz.prog f=some {X with body:=strip X.body}:=by kernel_rfl):C4 f X:=h
abbrev oa(a:Nat):l6:=oq (.mv (.v a))
abbrev ob(a b:Nat):l6:=oq (.load false a (.l b))
abbrev oc(a b:Nat):l6:=ow a (.mv (.l b))
abbrev od(a b:Nat):l6:=oq (.fieldAddr a (.v b))
abbrev oe(a b c:Nat):l6:=⟨.load false a (.l b),none,some (.l c,true),[]⟩
abbrev og(a b:Nat):l6:=⟨.mv (.v a),none,some (.l b,true),[]⟩
abbrev oh(a b:Nat):l6:=oq (.load true a (.v b))
abbrev oj(a b c:Nat):l6:=oq (.indexAddr a (.l b) (.l c))
abbrev ok(a b c:Nat):l6:=oq (.store a (.l b) (.l c))
abbrev ol(a b:Nat):l6:=oq (.pick (.l a) (.l b) (.c (.bool false)))
abbrev om(a b c:Nat):l6:=⟨.fieldAddr a (.v b),none,some (.l c,true),[]⟩
abbrev oo(a:Nat):l6:=ow a (.mv (.c (.bool false)))
abbrev os(a:Nat):l6:=oq (.mv (.l a))
abbrev ot(a b c:Nat):l6:=⟨.load false a (.l b),none,some (.l c,false),[]⟩
abbrev ou(a b:Nat):l6:=oq (.fieldAddr a (.l b))
abbrev ov(a b c:Nat):l6:=⟨.fieldAddr a (.v b),none,some (.l c,false),[]⟩
abbrev ox(a:Nat)(b:Int):l6:=ow a (.mv (oi b))
abbrev oy(a b:Nat):l6:=oq (.extract (.l a) b)
abbrev oz(a:Nat)(b:Int):l6:=oq (.bin .add false (.v a) (oi b))
abbrev oaa(a b c:Nat):l6:=ow a (.bin .lss false (.v b) (.v c))
abbrev E0(a:Nat):l6:=oq (.len false (.l a))
abbrev E7(a b:Nat):l6:=oq (.load false a (.v b))
abbrev L4(a b:Nat):l6:=⟨.mv (.v a),none,some (.l b,false),[]⟩
abbrev oae(a:Nat)(b:Int):l6:=oq (.bin .add false (.l a) (oi b))
abbrev P3(a b c:Nat):l6:=ow a (.pick (.l b) (.l c) (.c (.bool false)))
abbrev D9(a:Nat):l6:=oq (.nilchk (.l a))
abbrev P5(a b:Nat):l6:=oq (.pick (.l a) (.c (.bool true)) (.l b))
abbrev M1(a b c:Nat):l6:=oq (.store a (.v b) (.l c))
abbrev U0(a b c:Nat):l6:=ow a (.pick (.l b) (.c (.bool true)) (.l c))
abbrev oak(a b:Nat)(c d e:Int):l6:=ow a (.alloc b [.int .i64 c,.int .i64 d,.int .u8 e])
abbrev U9(a b c:Nat):l6:=oq (.indexAddr a (.v b) (.v c))
abbrev L9(a b:Nat):l6:=ow a (.len false (.l b))
abbrev F5(a b c:Nat):l6:=ow a (.box b (.v c))
abbrev J0(a b:Nat):l6:=⟨.mv (.v a),none,none,[b]⟩
abbrev J3(a b c d e f:Nat):l6:=oq (.append a b c d (.l e) (.l f))
abbrev P6(a b c:Nat):l6:=⟨.load false a (.l b),none,none,[c]⟩
abbrev L6(a b:Nat):l6:=oq (.load true a (.l b))
abbrev oas(a b c d:Nat):l6:=⟨.indexAddr a (.l b) (.l c),none,some (.l d,true),[]⟩
abbrev oat(a b c:Nat):l6:=⟨.bin .eql false (.l a) (.l b),none,some (.l c,true),[]⟩
abbrev U2(a b c d e:Nat):l6:=oq (.call a [.l b,.l c] [(d,e)] false)
abbrev X2(a b:Nat):l6:=oq (.bin .add false (.l a) (.l b))
abbrev oaw(a b:Nat)(c d e f g h i j k l m n:Int)(o p q r s t:Nat):l6:=oq (.mkarr a b [.agg [.str ⟨#[]⟩,.nils,.int .u8 c,.int .u8 d,.int .i64 e,.int .i64 f],.agg [.str ⟨#[]⟩,.nils,.int .u8 g,.int .u8 h,.int .i64 i,.int .i64 j],.agg [.str ⟨#[]⟩,.nils,.int .u8 k,.int .u8 l,.int .i64 m,.int .i64 n]] [(o,.l p),(q,.l r),(s,.l t)])
abbrev oax(a b:Nat)(c d e f:Int):l6:=ow a (.alloc b [.str ⟨#[]⟩,.nils,.int .u8 c,.int .u8 d,.int .i64 e,.int .i64 f])
abbrev T9(a b c d:Nat):l6:=oq (.call a [.l b] [(c,d)] false)
abbrev oaz(a b c:Nat):l6:=ow a (.bin .lss false (.l b) (.l c))
abbrev oba(a:Nat):l6:=ow a (.mv (.c (.bool true)))
abbrev obb(a b c d e f:Nat):l6:=⟨.call a [.l b,.l c] [(d,e)] false,none,some (.l f,true),[]⟩
abbrev obc(a b c:Nat):l6:=⟨.fieldAddr a (.l b),none,some (.l c,true),[]⟩
abbrev Z3(a b:Nat):l6:=ow a (.un .not (.l b))
abbrev Q8(a:Nat):l6:=oq (.len true (.l a))
abbrev obf(a:Nat)(b:Int)(c:Nat):l6:=⟨.bin .lss false (.l a) (oi b),none,some (.l c,true),[]⟩
abbrev V8(a b c:Nat):l6:=ow a (.load false b (.l c))
abbrev obh(a:Nat)(b:Int):l6:=oq (.bin .sub false (.l a) (oi b))
abbrev obi(a b:Nat):l6:=⟨.len false (.l a),none,some (.l b,false),[]⟩
abbrev obj(a:Nat):l6:=ow a (.mv (.c .nils))
abbrev obk(a b:Nat):l6:=⟨.nilchk (.l a),none,some (.l b,true),[]⟩
abbrev obl(a b c:Nat):l6:=⟨.fieldAddr a (.v b),none,none,[c]⟩
abbrev obm(a b c d:Nat):l6:=⟨.indexAddr a (.l b) (.l c),none,none,[d]⟩
abbrev obn(a b:Nat):l6:=⟨.len false (.l a),none,some (.l b,true),[]⟩
abbrev obo(a b c:Nat):l6:=⟨.load true a (.v b),none,some (.l c,true),[]⟩
abbrev obp(a:Nat)(b:Int)(c:Nat):l6:=⟨.bin .leq false (.l a) (.c (.int .u8 b)),none,some (.l c,true),[]⟩
abbrev obq(a b c:Nat):l6:=⟨.bin .geq false (.l a) (.l b),none,some (.l c,false),[]⟩
abbrev obr(a b c:Nat):l6:=⟨.mv (.v a),none,none,[b,c]⟩
abbrev obs(a:Nat)(b:Int)(c:Nat):l6:=⟨.bin .eql false (.l a) (oi b),none,some (.l c,true),[]⟩
abbrev obt(a:Nat)(b:Int)(c:Nat):l6:=⟨.bin .lss false (.l a) (oi b),none,some (.l c,false),[]⟩
abbrev obu(a b:Nat):l6:=oq (.bin .lss false (.l a) (.l b))
abbrev obv(a b c:Nat):l6:=oq (.callv (.c (.fn (.func a) [] [])) [.l b,.l c])
abbrev obw(a b c:Nat):l6:=⟨.load true a (.v b),none,none,[c]⟩
abbrev obx(a b c:Nat):l6:=ow a (.bin .neq false (.l b) (.l c))
abbrev oby(a b c:Int):l6:=oq (.build [.int .i64 a,.int .i64 b,.int .u8 c] [])
abbrev obz(a:Nat)(b:Int)(c:Nat):l6:=⟨.bin .gtr false (.l a) (oi b),none,some (.l c,false),[]⟩
abbrev oca(a b c:Nat):l6:=⟨.bin .leq false (.l a) (.l b),none,some (.l c,true),[]⟩
abbrev ocb(a:Nat)(b:Int):l6:=oq (.bin .lss false (.l a) (oi b))
abbrev occ(a:Nat)(b:Int):l6:=oq (.bin .eql false (.l a) (oi b))
abbrev ocd(a b:Nat)(c d:Int):l6:=ow a (.alloc b [.int .i64 c,.int .u8 d,.nils])
abbrev oce(a b:Nat):l6:=oq (.callv (.c (.fn (.func a) [] [])) [.l b])
abbrev ocf(a b:Nat):l6:=ow a (.mv (.v b))
abbrev ocg(a b c:Nat):l6:=⟨.load false a (.v b),none,some (.l c,true),[]⟩
abbrev och(a b c:Nat):l6:=⟨.load true a (.v b),none,some (.l c,false),[]⟩
abbrev oci(a b c d:Nat):l6:=⟨.indexAddr a (.l b) (.l c),none,some (.l d,false),[]⟩
abbrev ocj(a b:Nat):l6:=oq (.bin .eql false (.l a) (.l b))
abbrev ock(a b:Nat)(c:Int):l6:=oq (.indexAddr a (.l b) (oi c))
abbrev ocl(a:Nat)(b:Int)(c:Nat):l6:=⟨.bin .neq false (.l a) (oi b),none,some (.l c,false),[]⟩
abbrev ocm(a:Nat)(b:Int):l6:=oq (.bin .and false (.l a) (.c (.int .u8 b)))
abbrev ocn(a:Nat)(b:Int):l6:=oq (.bin .eql false (.v a) (.c (.int .u8 b)))
abbrev oco(a b c d:Nat):l6:=⟨.fieldAddr a (.l b),none,none,[c,d]⟩
abbrev ocp(a b:Nat):l6:=ow a (.alloc b [.nils,.nils])
abbrev ocq(a b:Nat):l6:=⟨.un .not (.l a),none,some (.l b,false),[]⟩
abbrev ocr(a b c d e f:Nat):l6:=oq (.call a [.l b] [(c,d),(e,f)] false)
abbrev ocs(a b:Nat)(c d:Int):l6:=ow a (.alloc b [.int .i64 c,.int .i64 d,.str ⟨#[]⟩])
abbrev oct(a b c d e f g:Nat):l6:=oq (.call a [.l b,.l c] [(d,e),(f,g)] false)
abbrev ocu(a b c:Nat):l6:=⟨.extract (.l a) b,none,none,[c]⟩
abbrev ocv(a b c:Nat):l6:=⟨.fieldAddr a (.l b),none,none,[c]⟩
abbrev ocw(a b c:Nat):l6:=oq (.slice false a (.l b) none (some (.l c)) none)
abbrev ocx(a b:Nat)(c:Int)(d e:Nat):l6:=oq (.mkarr a b [.int .i64 c] [(d,.l e)])
abbrev ocy(a b:Nat)(c d e f:Int):l6:=ow a (.alloc b [.str ⟨#[]⟩,.nils,.int .i64 c,.int .i64 d,.int .i64 e,.int .u8 f,.bool false])
abbrev ocz(a b c d e:Nat):l6:=⟨.call a [.l b] [(c,d)] false,none,some (.l e,false),[]⟩
abbrev oda(a b c:Nat):l6:=⟨.bin .lss false (.l a) (.l b),none,some (.l c,false),[]⟩
abbrev odb(a b c:Nat):l6:=⟨.bin .eql false (.l a) (.l b),none,some (.l c,false),[]⟩
abbrev odc(a b:Nat):l6:=ow a (.alloc b [.str ⟨#[]⟩,.nils,.nils])
abbrev odd(a b c d e f g h i j k l:Nat):l6:=oq (.call a [.l b,.l c,.l d] [(e,f),(g,h),(i,j),(k,l)] false)
abbrev ode(a b c d:Nat):l6:=⟨.load false a (.l b),none,none,[c,d]⟩
abbrev odf(a b c:Nat):l6:=⟨.load true a (.l b),none,none,[c]⟩
abbrev odg(a b:Nat):l6:=⟨.un .not (.l a),none,some (.l b,true),[]⟩
abbrev odh(a b:Nat)(c d e:Int):l6:=ow a (.alloc b [.int .i64 c,.int .i64 d,.int .i64 e,.str ⟨#[]⟩])
abbrev odi(a:Nat)(b:Int)(c:Nat):l6:=⟨.bin .gtr false (.l a) (.c (.int .u8 b)),none,some (.l c,false),[]⟩
abbrev odj(a:Nat)(b:Int)(c:Nat):l6:=⟨.bin .eql false (.l a) (.c (.int .u8 b)),none,some (.l c,false),[]⟩
abbrev odk(a:Nat):l6:=ow a (.mv (oi (-1)))
abbrev odl(a:Nat):l6:=ow a (.mv (.c (.lit (.pointer none))))
abbrev odm(a:Nat)(b:Int)(c:Nat):l6:=⟨.bin .eql false (.l a) (.c (.int .u8 b)),none,some (.l c,true),[]⟩
abbrev odn(a b c:Nat):l6:=⟨.pick (.l a) (.l b) (.c (.bool false)),none,some (.l c,false),[]⟩
abbrev odo(a b:Nat):l6:=⟨.nilchk (.l a),none,none,[b]⟩
abbrev odp(a b c:Nat):l6:=⟨.pick (.l a) (.c (.bool true)) (.l b),none,some (.l c,true),[]⟩
abbrev odq(a:Nat)(b:Int)(c:Nat)(d:Int)(e:Nat):l6:=⟨.lit a [.int .u8 b] [(c,.c (.int .u8 d))],none,none,[e]⟩
abbrev odr(a b:Nat)(c:Int):l6:=ow a (.bin .neq false (.l b) (oi c))
abbrev ods(a b c d:Nat):l6:=oq (.mapUpd a (.l b) (.l c) (.l d))
abbrev odt(a b:Nat)(c:Int):l6:=ow a (.bin .gtr false (.l b) (oi c))
abbrev odu(a b:Nat)(c:Int):l6:=ow a (.bin .geq false (.l b) (oi c))
abbrev odv(a b c:Nat):l6:=⟨.nilchk (.l a),none,none,[b,c]⟩
abbrev odw(a:Nat)(b:Int)(c:Nat)(d:Int)(e f:Nat):l6:=⟨.lit a [.int .u8 b] [(c,.c (.int .u8 d))],none,none,[e,f]⟩
abbrev odx(a b c d:Nat):l6:=ow a (.callv (.c (.fn (.func b) [] [])) [.l c,.l d])
abbrev ody(a b:Nat)(c d:Int):l6:=ow a (.alloc b [.int .i64 c,.int .i64 d])
abbrev odz(a b:Nat):l6:=oq (.bin .neq false (.l a) (.l b))
abbrev oea(a:Nat)(b:Int):l6:=oq (.bin .geq false (.l a) (oi b))
abbrev oeb(a b:Int)(c d:Nat)(e:Int)(f g:Nat)(h:Int)(i j k:Nat):l6:=oq (.build [.int .i64 a,.int .u8 b,.nils] [(c,d,oi e),(f,g,.c (.int .u8 h)),(i,j,.l k)])
abbrev oec(a:Nat)(b:Int)(c:Nat):l6:=⟨.bin .geq false (.l a) (oi b),none,some (.l c,true),[]⟩
abbrev oed(a b:Nat)(c:Int):l6:=ow a (.bin .eql false (.l b) (oi c))
abbrev oee(a b:Nat)(c d e:Int)(f g:Nat):l6:=oq (.mkarr a b [.agg [.int .i64 c,.int .i64 d,.int .u8 e]] [(f,.l g)])
abbrev oef(a b c:Nat):l6:=⟨.load false a (.v b),none,none,[c]⟩
abbrev oeg(a b c d:Nat):l6:=⟨.loadV false a (.l b),none,none,[c,d]⟩
abbrev oeh(a b:Nat):l6:=oq (.store a (.l b) (.c (.bool true)))
abbrev oei(a b c d:Nat):l6:=⟨.loadA a (.v b),none,none,[c,d]⟩
abbrev oej(a b:Nat)(c:Int):l6:=oq (.store a (.v b) (oi c))
abbrev oek(a b c:Nat):l6:=oq (.slice false a (.l b) (some (.l c)) none none)
abbrev oel(a:Int)(b:Nat):l6:=oq (.bin .leq false (.c (.int .u8 a)) (.l b))
abbrev oem(a b c d e f:Nat):l6:=⟨.call a [.l b,.l c] [(d,e)] false,none,some (.l f,false),[]⟩
abbrev oen(a:Nat)(b:Int):l6:=oq (.indexS (.l a) (oi b))
abbrev oeo(a:Nat)(b:Int):l6:=oq (.bin .geq false (.l a) (.c (.int .u8 b)))
abbrev oep(a b:Nat)(c:Int):l6:=oq (.slice true a (.l b) (some (oi c)) none none)
abbrev oeq(a:Nat):l6:=oq (.bin .neq false (.l a) (.c (.str ⟨#[]⟩)))
abbrev oer(a b:Nat)(c d:Int):l6:=ow a (.allocA b [.int .i64 c,.int .i64 d])
abbrev oes(a b:Nat)(c d e f:Int)(g h:Nat):l6:=oq (.mkarr a b [.agg [.str ⟨#[]⟩,.nils,.int .u8 c,.int .u8 d,.int .i64 e,.int .i64 f]] [(g,.l h)])
abbrev oet(a:Nat)(b:Int)(c:Nat):l6:=⟨.bin .and false (.l a) (.c (.int .u8 b)),none,some (.l c,true),[]⟩
abbrev oeu(a b:Nat)(c:Int):l6:=ow a (.bin .eql false (.l b) (.c (.int .u8 c)))
abbrev oev(a b c:Int)(d e f g h i j k l:Nat):l6:=oq (.build [.int .i64 a,.int .i64 b,.int .u8 c] [(d,e,.l f),(g,h,.l i),(j,k,.l l)])
abbrev oew(a:Nat):l6:=oq (.conv .i64 (.l a))
abbrev oex(a b c d e:Nat):l6:=⟨.call a [.l b] [(c,d)] false,none,some (.l e,true),[]⟩
abbrev oey(a:Nat)(b:Int):l6:=oq (.bin .eql false (.v a) (oi b))
abbrev oez:l6:=oq (.build [.str ⟨#[]⟩,.nils,.nils] [])
abbrev ofa(a b c d e f g h i j k l m:Nat):l6:=⟨.call a [.l b,.l c,.l d] [(e,f),(g,h),(i,j),(k,l)] false,none,none,[m]⟩
abbrev ofb(a b c:Nat):l6:=oq (.mapUpd a (.l b) (.l c) (.c (.bool true)))
abbrev ofc(a b c d:Nat):l6:=ow a (.lookup b false (.bool false) (.l c) (.l d))
abbrev ofd(a b:Nat):l6:=oq (.loadA a (.v b))
abbrev ofe(a b c:Nat):l6:=⟨.loadA a (.v b),none,none,[c]⟩
abbrev off(a b:Nat)(c d e f g h i j k l m n o p q r:Int)(s t u v w x y z:Nat):l6:=oq (.mkarr a b [.agg [.str ⟨#[]⟩,.nils,.int .u8 c,.int .u8 d,.int .i64 e,.int .i64 f],.agg [.str ⟨#[]⟩,.nils,.int .u8 g,.int .u8 h,.int .i64 i,.int .i64 j],.agg [.str ⟨#[]⟩,.nils,.int .u8 k,.int .u8 l,.int .i64 m,.int .i64 n],.agg [.str ⟨#[]⟩,.nils,.int .u8 o,.int .u8 p,.int .i64 q,.int .i64 r]] [(s,.l t),(u,.l v),(w,.l x),(y,.l z)])
abbrev ofg(a b c d:Nat):l6:=oq (.indexAddrA a b (.v c) (.l d))
abbrev ofh(a b:Nat)(c:Int):l6:=ow a (.bin .lss false (.l b) (oi c))
abbrev ofi(a b c d e f g h i j k:Nat):l6:=oq (.call a [.l b,.l c] [(d,e),(f,g),(h,i),(j,k)] false)
abbrev ofj(a:Nat)(b:Int)(c d:Nat):l6:=oq (.lookup a false (.int .i64 b) (.l c) (.l d))
abbrev ofk(a b:Nat):l6:=oq (.mkarr a b [] [])
abbrev ofl(a:Nat):l6:=oq (.un .not (.l a))
abbrev ofm(a:Nat):l6:=oq (.makeMap a none)
abbrev ofn(a b:Nat):l6:=oq (.indexS (.l a) (.l b))
abbrev ofo(a b:Nat):l6:=⟨.mv (.l a),none,some (.l b,false),[]⟩
abbrev ofp(a b:Nat)(c:Int):l6:=ow a (.alloc b [.str ⟨#[]⟩,.nils,.int .i64 c])
abbrev ofq(a b c d:Nat):l6:=⟨.fieldAddr a (.v b),none,none,[c,d]⟩
abbrev ofr(a b c d e f g:Nat):l6:=oq (.call a [] [(b,c),(d,e),(f,g)] false)
abbrev ofs(a b:Int)(c d:Nat)(e:Int)(f g:Nat)(h:Int):l6:=oq (.build [.int .i64 a,.int .i64 b] [(c,d,oi e),(f,g,oi h)])
abbrev oft(a b:Int)(c d e f g h:Nat):l6:=oq (.build [.int .i64 a,.int .i64 b] [(c,d,.l e),(f,g,.l h)])
abbrev ofu(a b:Nat):l6:=⟨.mv (.l a),none,some (.l b,true),[]⟩
abbrev ofv:l6:=oq (.build [.nils,.nils] [])
abbrev ofw(a b:Nat)(c:Int)(d e:Nat):l6:=oq (.mkarr a b [.int .u8 c] [(d,.l e)])
abbrev ofx(a b:Nat):l6:=oq (.bin .rem false (.l a) (.l b))
abbrev ofy(a:Nat)(b:Int):l6:=oq (.bin .rem false (.l a) (oi b))
abbrev ofz(a b:Nat):l6:=oq (.bin .sub false (.l a) (.l b))
abbrev oga(a:Nat)(b:Int):l6:=oq (.bin .neq false (.l a) (oi b))
abbrev ogb(a b:Nat):l6:=oq (.bin .mul false (.l a) (.l b))
abbrev kc:C7:=.skip
abbrev kd(a:Nat)(b:Int)(c d:Nat):C7:=.reg [oz a b,oc c d]
abbrev kg(a b c:Nat):C7:=.reg [oa a,oc b c]
abbrev kh(a b c:Nat):C7:=.reg [oaa a b c]
abbrev ki(a b:Nat)(c:Int)(d e:Nat):C7:=.reg [oa a,oae b c,oc d e]
abbrev kj(a:Nat):C7:=.reg [oo a]
abbrev kk(a:Nat)(b:Int):C7:=.reg [ox a b]
abbrev kl(a:Nat):C7:=.exit a
abbrev ko:C7:=.ret
abbrev ks(a b c d e:Nat)(f:Int):C7:=.reg [ocf a b,L9 c d,ox e f]
abbrev ku(a b c d e f:Nat):C7:=.reg [oa a,oa b,E0 c,oaz d e f]
abbrev kz(a:Nat):C7:=.reg [oba a]
abbrev kab(a b c d:Nat):C7:=.reg [F5 a b c,oo d]
abbrev kad(a:Nat):C7:=.reg [obj a]
abbrev kae(a b c d e f g h:Nat)(i j k:Int)(l m n o p:Nat):C7:=.reg [oa a,U9 b c d,L6 e f,oak g h i j k,oc l m,ok n o p]
abbrev kak(a b c:Nat):C7:=.reg [oa a,Z3 b c]
abbrev kam(a b c d e:Nat):C7:=.reg [oh a b,M1 c d e]
abbrev kao(a b c d e:Nat):C7:=.reg [oq (.mkfn (.func a) [] [.v b,.v c]),oc d e]
abbrev kap(a b c d e f g:Nat):C7:=.reg [U9 a b c,ob d e,oc f g]
abbrev B6(a b:Nat):C7:=.cond (.v a) kc (kl b)
abbrev U4(a:Nat):C7:=sq [kj a,ko]
abbrev kav(a b:Nat):C7:=.cond (.v a) (kl b) kc
abbrev kax(a b c:Int)(d e f g:Nat):C7:=sq [.reg [oby a b c,M1 d e f,oo g],ko]
abbrev kba(a b c d:Nat):C7:=.cond (.v a) (sq [kg b c d,ko]) kc
abbrev kbb(a b c d e:Nat)(f:Int):C7:=.cond (.v a) (sq [.reg [oq (.store b (.v c) (.c .nils)),oej d e f],ko]) kc
abbrev kbc(a b c:Nat)(d:Int):C7:=.cond (.v a) (sq [.reg [odk b,ox c d],ko]) kc
abbrev kbd(a b c d:Nat)(e:Int):C7:=sq [.reg [oq (.build [.nils,.str ⟨#[]⟩,.str ⟨#[]⟩] []),M1 a b c,ox d e],ko]
abbrev kbe(a b:Nat)(c:Int):C7:=.cond (.v a) (sq [kk b c,ko]) kc
abbrev kbf(a b c d:Nat)(e:Int):C7:=sq [.reg [oa a,oc b c,ox d e],ko]
end Go.Proofs.YtbhfgadikmfjdaaGreat.Am
namespace Go.Proofs.YtbhfgadikmfjdaaGreat.T
open Go.Proofs.YtbhfgadikmfjdaaGreat.Am
theorem mixed:Tryz.prog.follows .mixedOrders=true:=by kernel_rfl
def X69:u7:=
 ⟨12,[0,2,3],0,[(1,none)],sq [kj 1,.reg [oa 0,ocm 0 127,oc 2 1],.reg [oa 2,oel 32 0,os 1,og 2 2,obp 3 126 2,ol 2 4,oc 1 5],ko]⟩
def X73:u7:=
 ⟨30,[0,2,3,6,13,20,27],0,[(1,none)],sq [kk 1 0,.reg [oa 0,ocm 0 127,oc 2 1],.block 0 (sq [.reg [oa 2,oel 97 0,os 1,og 2 2,obp 3 122 2,ol 2 4,oc 3 5],.cond (.v 3) (sq [kk 1 1,ko]) (sq [.reg [oa 2,oel 65 0,os 1,og 2 2,obp 3 90 2,ol 2 4,oc 4 5],.cond (.v 4) (sq [kk 1 2,ko]) (sq [.reg [oa 2,oel 48 0,os 1,og 2 2,obp 3 57 2,ol 2 4,oc 5 5],.cond (.v 5) (sq [kk 1 3,ko]) (sq [.reg [oa 2,oq (.bin .eql false (.l 0) (.c (.int .u8 32))),oc 6 1],kbe 6 1 4])])])]),kk 1 5,ko]⟩
def X35:u7:=
 ⟨19,[0,2,3,4,6,7,8,14],0,[(1,none),(2,none)],sq [.reg [ox 1 0,ox 2 0],sq [.reg [oa 0,ow 4 (.len true (.l 0)),ox 5 0],.block 0 (.loopS [0,4,5] 0 (sq [kh 6 5 4,B6 6 0,.block 1 (sq [kg 5 3 0,.reg [oa 0,oa 3,ofn 0 1,T9 69 2 0 0,Z3 7 3],.cond (.v 7) (kbf 3 1 0 2 60) kc]),kd 5 1 5 0]))],.reg [oa 0,Q8 0,oc 1 1,ox 2 0],ko]⟩
def X67:u7:=
 ⟨18,[0,1,4],0,[(2,none)],sq [kj 2,.reg [oa 1,oq (.bin .leq false (oi 0) (.l 0)),os 1,og 1 2,obf 3 8 2,ol 2 4,os 5,og 0 6,og 1 6,⟨.bin .shr false (.l 7) (.l 8),none,some (.l 6,true),[]⟩,oet 9 1 6,odm 10 1 6,ol 6 11,oc 2 12],ko]⟩
def X31:u7:=
 ⟨2,[0],1,[(0,some (true,3))],sq [.reg [oak 0 0 0 0 0],.reg [oq (.build [.int .i64 0,.int .i64 0,.int .u8 0] [(0,1,oi 0),(1,1,oi 0),(2,1,.c (.int .u8 63))]),M1 3 0 0],ko]⟩
def X30:u7:=
 ⟨22,[0,1,2,3,4],2,[(4,none)],sq [.reg [F5 2 0 0,F5 3 1 1,oo 4],.reg [od 0 3,ob 1 0,od 0 2,ob 1 2,obu 1 3,os 4,om 1 2 5,oe 1 6 5,om 0 3 5,oe 1 8 5,obb 67 7 9 0 0 5,ol 5 10,os 11,om 2 3 12,oe 1 13 12,⟨.call 67 [.l 14,oi 0] [(0,0)] false,none,some (.l 12,true),[]⟩,ol 12 15,oc 4 16],ko]⟩
def X50:u7:=
 ⟨78,[0,1,2,3,4,6,7,8,9,18,37,41,48,63],4,[(5,some (true,3)),(6,none)],sq [.reg [F5 3 0 0,F5 4 1 1,oak 5 2 0 0 0,oo 6],sq [.reg [oa 2,ocb 0 0,os 1,L4 2 2,ov 2 3 2,ot 1 4 2,obi 5 2,obq 3 6 2,U0 9 2 7],.cond (.v 9) (kax 0 0 0 3 5 0 6) kc],.reg [od 2 3,ob 1 0,oa 2,oj 6 1 2,L6 6 3,oax 7 3 0 0 0 0,ok 6 5 4],sq [.reg [od 4 7,ob 1 0,od 0 4,ob 1 2,odz 1 3,os 4,ov 2 7 5,ot 1 6 5,ov 1 4 5,ot 1 8 5,oem 67 7 9 0 0 5,ocq 10 5,U0 10 5 11],.cond (.v 10) (kax 0 0 0 3 5 0 6) kc],sq [.reg [od 0 7,ob 1 0,ow 11 (.bin .eql false (.l 1) (.c (.str ⟨#[]⟩)))],.cond (.v 11) (sq [.reg [od 2 4,ob 1 0,od 3 7,ob 1 2,oq (.bin .and false (.l 1) (.l 3)),oc 8 4],sq [.reg [oa 8,oeu 12 0 0],.cond (.v 12) (kax 0 0 0 3 5 0 6) kc],.reg [od 5 7,ob 1 0,od 1 4,ob 1 2,oa 8,oev 0 0 0 0 1 1 1 1 3 2 1 4,M1 3 5 5,oba 6],ko]) kc],sq [.reg [od 2 4,ob 1 0,od 0 7,ob 1 2,oen 3 0,oq (.call 73 [.l 4] [(0,0)] true),oq (.call 67 [.l 1,.l 5] [(0,0)] true),Z3 13 6],.cond (.v 13) (kax 0 0 0 3 5 0 6) kc],.reg [od 5 7,ob 1 0,od 0 7,ob 1 2,od 0 7,ob 1 4,Q8 5,obh 6 1,ofn 3 7,oq (.call 73 [.l 8] [(0,0)] true),od 3 7,ob 1 10,oev 0 0 0 0 1 1 1 1 9 2 1 11,M1 3 5 12,oba 6],ko]⟩
def a9c:u7:=
 ⟨15,[0,2,3,5,6,7,13],0,[(1,none)],sq [kj 1,sq [.reg [oa 0,ow 3 (.len true (.l 0)),ox 4 0],.block 0 (.loopS [0,3,4] 0 (sq [kh 5 4 3,B6 5 0,.block 1 (sq [kg 4 2 0,.reg [oa 0,oa 2,ofn 0 1,T9 73 2 0 0,oed 6 3 4],.cond (.v 6) (sq [kz 1,ko]) kc]),kd 4 1 4 0]))],kj 1,ko]⟩
def b0o:u7:=
 ⟨5,[0,2],0,[(1,none)],sq [kj 1,.reg [oa 0,oq (.bin .lss false (.l 0) (.c (.int .u8 64))),oc 1 1],ko]⟩
def a6y:u7:=
 ⟨26,[0,1,4,5,10,12,13,14,24],0,[(2,none)],sq [kj 2,sq [.reg [oa 0,E0 0,oa 1,E0 2,obx 4 1 3],.cond (.v 4) (U4 2) kc],sq [.reg [oa 0,L9 5 0,ox 6 0],.block 0 (.loopS [0,1,5,6] 0 (sq [kh 7 6 5,B6 7 0,.block 1 (sq [kg 6 3 0,.reg [oa 0,oa 3,oj 1 0 1,ob 1 2,oa 1,oa 3,oj 1 4 5,ob 1 6,obx 8 3 7],.cond (.v 8) (U4 2) kc]),kd 6 1 6 0]))],kz 2,ko]⟩
def a2E:u7:=
 ⟨45,[0,1,2,3,4],2,[(4,none)],sq [.reg [F5 2 0 0,F5 3 1 1,oo 4],.reg [od 4 2,ob 1 0,od 4 3,ob 1 2,ocj 1 3,os 4,om 5 2 5,oe 1 6 5,om 5 3 5,oe 1 8 5,oat 7 9 5,ol 5 10,os 11,om 2 2 12,oe 1 13 12,om 2 3 12,oe 1 15 12,oat 14 16 12,ol 12 17,os 18,om 3 2 19,oe 1 20 19,om 3 3 19,oe 1 22 19,oat 21 23 19,ol 19 24,os 25,om 0 2 26,oe 1 27 26,om 0 3 26,oe 1 29 26,oat 28 30 26,ol 26 31,os 32,om 1 2 33,oe 1 34 33,om 1 3 33,oe 1 36 33,obb 123 35 37 0 0 33,ol 33 38,oc 4 39],ko]⟩
def T5:u7:=
 ⟨110,[0,1,2,4,6,8,24,32,50,70,73,92,93,94,95,108],1,[(3,none)],sq [kab 2 0 0 3,sq [.reg [od 0 2,ob 1 0,Q8 1,oq (.bin .gtr false (.l 2) (oi 4)),os 3,ov 1 2 4,ot 1 5 4,obi 6 4,obt 7 1 4,P5 4 8,os 9,ov 1 2 10,ot 1 11 10,obi 12 10,obz 13 4 10,U0 6 10 14],.cond (.v 6) (U4 3) kc],sq [.reg [od 0 2,ob 1 0,ocr 35 1 0 0 0 0,os 2,oy 3 0,oy 3 1,os 4,oc 4 5],.reg [oa 4,odr 7 0 0],.cond (.v 7) (U4 3) kc],sq [.reg [od 2 2,ob 1 0,oq (.bin .lss false (.l 1) (.c (.int .u8 1))),os 2,ov 2 2 3,ot 1 4 3,odi 5 63 3,P5 3 6,os 7,ov 3 2 8,ot 1 9 8,⟨.bin .lss false (.l 10) (.c (.int .u8 1)),none,some (.l 8,false),[]⟩,P5 8 11,os 12,ov 3 2 13,ot 1 14 13,odi 15 63 13,U0 8 13 16],.cond (.v 8) (U4 3) kc],sq [.reg [od 4 2,ob 1 0,ocb 1 0,os 2,ov 4 2 3,ot 1 4 3,L4 1 3,obq 5 6 3,P5 3 7,os 8,ov 5 2 9,ot 1 10 9,obt 11 0 9,P5 9 12,os 13,ov 5 2 14,ot 1 15 14,L4 1 14,obq 16 17 14,U0 9 14 18],.cond (.v 9) (U4 3) kc],sq [.reg [od 0 2,ob 1 0,ow 10 (.call 121 [.l 1] [(0,0)] false)],.cond (.v 10) (sq [.reg [od 0 2,ob 1 0,Q8 1,occ 2 1,os 3,om 1 2 4,oe 1 5 4,obn 6 4,obs 7 1 4,ol 4 8,os 9,om 1 2 10,oe 1 11 10,⟨.indexAddr 1 (.l 12) (oi 0),none,some (.l 10,true),[]⟩,oe 1 13 10,odm 14 0 10,ol 10 15,oc 3 16],ko]) kc],sq [.reg [od 1 2,V8 11 1 0,L9 12 1,ox 13 0],.block 0 (.loopS [11,12,13] 1 (sq [kh 14 13 12,B6 14 0,.block 1 (sq [kap 1 11 13 1 0 5 1,.reg [oa 5,T9 122 0 0 0,ofl 1,os 2,L4 5 3,odj 4 63 3,P5 3 5,os 6,L4 5 7,odj 8 0 7,U0 15 7 9],.cond (.v 15) (U4 3) kc]),kd 13 1 13 0]))],kz 3,ko]⟩
def X70:u7:=
 ⟨67,[0,1,2,3,4,5,7,15,27,37,39,40,41,42,50,55,56,57,58,63],3,[(2,none),(3,none)],sq [.reg [F5 1 0 0,ox 2 0,ox 3 0],sq [.reg [od 0 1,ob 1 0,ocb 1 1,os 2,ov 0 1 3,ot 1 4 3,obz 5 8 3,U0 7 3 6],kbc 7 2 3 1],sq [.reg [od 1 1,ob 1 0,oq (.bin .eql false (.l 1) (.c (.int .u8 0))),os 2,ov 1 1 3,ot 1 4 3,⟨.conv .i64 (.l 5),none,some (.l 3,false),[]⟩,ov 0 1 3,ot 1 7 3,⟨.bin .shl false (oi 1) (.l 8),none,some (.l 3,false),[]⟩,obq 6 9 3,U0 8 3 10],kbc 8 2 3 1],sq [.reg [od 2 1,ob 1 0,E0 1,ocb 2 1,os 3,ov 2 1 4,ot 1 5 4,obi 6 4,obz 7 64 4,U0 9 4 8],kbc 9 2 3 1],sq [.reg [od 2 1,V8 10 1 0,L9 11 1,ox 12 0],.block 0 (.loopS [1,10,11,12] 3 (sq [kh 13 12 11,B6 13 0,.block 1 (sq [.reg [oa 12,U9 6 10 12,L6 6 1,oax 5 1 0 0 0 0,oc 4 0,ok 6 3 2],sq [.reg [oh 6 5,od 0 1,ob 1 1,U2 103 0 2 0 0,Z3 14 3],.cond (.v 14) (kbf 4 2 0 3 20) kc],.reg [od 2 1,ob 1 0,oa 4,ow 15 (.slice false 6 (.l 1) none (some (.l 2)) none),L9 16 3,ox 17 0],.block 2 (.loopS [1,4,5,10,11,12,15,16,17] 3 (sq [kh 18 17 16,B6 18 2,.block 3 (sq [.reg [U9 6 15 17,L6 6 0,oax 6 2 0 0 0 0,ok 6 2 1],.reg [oh 6 6,oh 6 5,ow 19 (.call 104 [.l 0,.l 1] [(0,0)] false)],.cond (.v 19) (kbf 4 2 0 3 20) kc]),kd 17 1 17 0]))]),kd 12 1 12 0]))],.reg [ox 2 0,ox 3 0],ko]⟩
def X36:u7:=
 ⟨12,[0,1,2,4],1,[(2,none)],sq [kab 1 0 0 2,.reg [oh 3 1,ocr 70 0 0 0 0 0,os 1,oy 2 0,oy 2 1,os 3,oc 3 4],.reg [oa 3,occ 0 0,oc 2 1],ko]⟩
def a9U:u7:=
 ⟨78,[0,1,2,3,4,5,6,7,8,9,10,11,12,13,24,29,30,31,44,52],12,[(2,none),(3,none)],sq [.reg [F5 1 0 0,obj 2,obj 3],.reg [ofr 31 0 0 0 0 0 0,oak 4 1 0 0 0,ok 3 1 0],.reg [oh 3 4,oee 2 3 0 0 0 0 0,oq (.mkarr 3 1 [.nils] [(0,.c .nils)]),oc 5 1,oc 6 2],.reg [ofm 4,oh 3 4,oq (.mapUpd 46 (.l 0) (.l 1) (oi 0)),os 0,oc 7 3],sq [kk 8 0,.block 0 (.loopS [1,5,6,7,8] 12 (sq [sq [ku 8 5 1 14 0 2,B6 14 0],.block 1 (sq [.reg [od 2 1,ob 1 0,L9 15 1,ox 16 0],.block 2 (.loopS [1,5,6,7,8,15,16] 12 (sq [kh 17 16 15,B6 17 2,.block 3 (sq [kg 16 9 0,.reg [obw 3 1 5,J0 5 5,J0 8 5,obm 3 1 2 5,odf 3 3 5,J0 9 5,ofa 50 0 4 5 0 0 0 0 0 0 0 0 5,⟨.mv (.l 6),none,none,[5]⟩,ocu 7 0 5,ocu 7 1 5,oak 10 5 0 0 0,ok 3 10 8,oc 11 9],sq [kak 11 18 0,kav 18 3],.reg [oa 7,oh 3 10,oq (.lookup 46 true (.int .i64 0) (.l 0) (.l 1)),os 2,oy 3 0,oy 3 1,oc 12 4,oc 13 5],sq [kak 13 19 0,.cond (.v 19) (sq [.reg [oa 5,E0 0,oc 12 1],.reg [oa 7,oh 3 10,oa 12,ods 46 0 1 2],.reg [oa 5,oh 3 10,oee 6 3 0 0 0 0 1,J3 7 3 24 1 0 2,oa 6,oq (.mkarr 8 1 [.nils] [(0,.c .nils)]),J3 9 1 24 1 4 5,oc 5 3,oc 6 6]]) kc],.G5 12 none 32030 0 (.reg [oa 6,oa 12,oa 6,oa 12,oj 1 2 3,ob 1 4,oa 8,ocx 10 1 0 0 6,J3 11 1 8 1 5 7,oj 1 0 1,ok 1 9 8])]),kd 16 1 16 0]))]),ki 8 0 1 8 1]))],.reg [oa 5,oa 6,oc 2 0,oc 3 1],ko]⟩
def X71:u7:=
 ⟨11,[0,1,2,3],3,[(2,none)],sq [.reg [F5 1 0 0,obj 2],.reg [oh 3 1,ocr 105 0 1 3 2 1,os 1,oy 2 0,oy 2 1,oc 3 3,os 4],kg 3 2 0,ko]⟩
def X87:u7:=
 ⟨75,[0,1,2,3,4,5,6,7,8,9,11,20,21,22,23,29,40,55,56,57,58,65],9,[(2,none)],sq [.reg [F5 1 0 0,obj 2],.reg [oh 3 1,ocr 105 0 1 3 2 1,os 1,oy 2 0,oy 2 1,oc 3 3,oc 4 4],.G7 [(2,true),(1,true)] (.G5 3 none 0 0 (.G5 4 none 0 0 (sq [.reg [oa 3,E0 0,oq (.makeSlice 3 1 1 (.bool false) (.l 1) (.l 1)),oc 5 2],kad 6,.G5 6 none 8 1 (sq [sq [ks 11 3 12 0 13 0,.block 0 (.loopS [1,4,5,6,11,12,13] 9 (sq [kh 14 13 12,B6 14 0,.block 1 (sq [kae 13 3 11 13 3 1 8 4 0 0 0 7 0 3 3 2,.reg [oh 3 1,oh 3 8,ow 15 (.call 30 [.l 0,.l 1] [(0,0)] false)],.cond (.v 15) (sq [.reg [oa 5,oa 7,oj 1 0 1,oeh 1 2],.reg [oa 6,oa 7,ocx 5 1 0 0 1,J3 6 1 8 1 0 2,oc 6 3]]) kc]),kd 13 1 13 0]))],.block 2 (.loopS [4,5,6] 9 (sq [sq [.reg [oa 6,E0 0,odt 16 1 0],B6 16 2],.block 3 (sq [.reg [oa 6,oa 6,E0 1,obh 2 1,oj 1 0 3,ob 1 4,oc 9 5],.reg [oa 6,oa 6,E0 1,obh 2 1,ocw 1 0 3,oc 6 4],.reg [oa 4,oa 9,oj 1 0 1,V8 17 1 2,L9 18 3,ox 19 0],.block 4 (.loopS [4,5,6,17,18,19] 9 (sq [kh 20 19 18,B6 20 4,.block 5 (sq [kap 1 17 19 1 0 10 1,.reg [oa 5,oa 10,oj 1 0 1,ob 1 2,Z3 21 3],.cond (.v 21) (sq [.reg [oa 5,oa 10,oj 1 0 1,oeh 1 2],.reg [oa 6,oa 10,ocx 7 1 0 0 1,J3 8 1 8 1 0 2,oc 6 3]]) kc]),kd 19 1 19 0]))])])),kg 5 2 0,ko])])))]⟩
def X15:u7:=
 ⟨64,[0,1,2,4,5,6,7,8,10,11,12,14,15,16,17,28],6,[(3,some (true,7))],sq [.reg [F5 2 0 0,ocy 3 1 0 0 0 0],kad 4,.G5 4 none 4 1 (sq [kad 5,.G5 5 none 5 1 (sq [.reg [ofr 31 0 0 0 0 0 0,oak 6 2 0 0 0,ok 3 1 0,ox 7 0],sq [ks 11 1 12 0 13 0,.block 0 (.loopS [1,2,3,4,5,6,7,11,12,13] 6 (sq [kh 14 13 12,B6 14 0,.block 1 (sq [kap 1 11 13 1 0 8 1,.reg [oh 3 2,oh 3 6,oa 8,odd 50 0 1 2 0 0 0 0 0 0 0 0,os 3,oy 4 0,oy 4 1,oak 9 3 0 0 0,ok 3 7 5,oc 10 6],sq [kak 10 15 0,kav 15 0],.reg [oa 4,od 2 2,ob 1 1,oa 8,oj 6 2 3,ou 0 4,ob 1 5,J3 4 1 1 5 0 6,oc 4 7],.reg [oa 5,od 2 2,ob 1 1,oa 8,oj 6 2 3,ou 1 4,ob 1 5,J3 5 1 1 0 0 6,oc 5 7],kam 3 9 3 6 0,ki 7 0 1 7 1]),kd 13 1 13 0]))],.reg [oa 4,oq (.convStr (.l 0)),oa 5,oa 7,oh 3 6,oa 7,oa 1,E0 6,ocj 5 7,os 8,obo 3 2 9,obo 3 6 9,obb 30 10 11 0 0 9,ol 9 12,oq (.build [.str ⟨#[]⟩,.nils,.int .i64 0,.int .i64 0,.int .i64 0,.int .u8 0,.bool false] [(0,1,.l 1),(1,1,.l 2),(2,1,.l 3),(3,3,.l 4),(6,1,.l 13)]),M1 7 3 14],ko])])]⟩
theorem c69:C4 69 X69:=C6
theorem c73:C4 73 X73:=C6
theorem c35:C4 35 X35:=C6
theorem c67:C4 67 X67:=C6
theorem c31:C4 31 X31:=C6
theorem c30:C4 30 X30:=C6
theorem c50:C4 50 X50:=C6
theorem c121:C4 121 a9c:=C6
theorem c122:C4 122 b0o:=C6
theorem c123:C4 123 a6y:=C6
theorem c104:C4 104 a2E:=C6
theorem c103:C4 103 T5:=C6
theorem c70:C4 70 X70:=C6
theorem c36:C4 36 X36:=C6
theorem c105:C4 105 a9U:=C6
theorem c71:C4 71 X71:=C6
theorem c87:C4 87 X87:=C6
theorem c15:C4 15 X15:=C6
set_option maxHeartbeats 4000000
theorem c6E(b:UInt8):F0 69 [0] [U b.toNat] (B (a0H b)):=by
 refine E4 c69 0 (by simp[X69]) fun Q a c=>?_;have h:=a9m b;simp[X69,h];by_cases h1:32≤P9 b
 . simp[h1];refine a _ _ ?_;simp[X69,a0H,h1]
 . simp[h1];refine a _ _ ?_;simp[X69,a0H,h1]
theorem a9X(b:UInt8):F0 73 [0] [U b.toNat] (IN (a1r b)):=by
 refine E4 c73 0 (by simp[X73]) fun Q e n=>?_;have h:=a9m b;have a:a1r b=(if 97≤P9 b∧P9 b≤122 then 1 else if 65≤P9 b∧P9 b≤90 then 2 else if 48≤P9 b∧P9 b≤57 then 3 else if P9 b=32 then 4 else 5):=rfl;generalize P9 b=c at h a;by_cases f:97≤c∧c≤122
 . rw[if_pos f]at a;simp[X73,h,f];refine e _ _ ?_;simp[X73,a]
 rw[if_neg f]at a;by_cases a3:65≤c∧c≤90
 . rw[if_pos a3]at a;have d:¬97≤c:=i9;simp[X73,h,a3,d];refine e _ _ ?_;simp[X73,a]
 rw[if_neg a3]at a;by_cases a5:48≤c∧c≤57
 . rw[if_pos a5]at a;have d:¬97≤c:=i9;have g:¬65≤c:=i9;simp[X73,h,a5,d,g];refine e _ _ ?_;simp[X73,a]
 rw[if_neg a5]at a;by_cases d:97≤c<;>by_cases g:65≤c<;>by_cases j:48≤c<;>by_cases i:c=32<;>(try (exfalso;omega))<;>
  (have k:97≤c→¬c≤122:=i9
   have l:65≤c→¬c≤90:=i9;have m:48≤c→¬c≤57:=i9;simp only[i,if_true,if_false]at a;simp[X73,h,d,g,j,i,k,l,m];refine e _ _ ?_;simp[X73,a])
theorem b0v(m k:Nat)(hm:m<256)(c:k≤1000000):F0 67 [0] [UN m,IN k] (B (bit m k)):=by
 refine E4 c67 0 (by simp[X67]) fun Q b d=>?_;by_cases a:k<8
 . have h:=c1f hm a;simp[X67,a,IntKind.bits];simp at h;refine b _ _ ?_;simp[X67,bit,a,h]
 . simp[X67,a];refine b _ _ ?_;simp[X67,bit,a]
theorem b8s:F0 31 [0,0,0] [] (SP start):=by refine E4 c31 1 (by simp[X31]) fun Q a b=>?_;simp[X31];refine a _ _ ?_;simp[X31,start]
def Z8(s:By):Option Nat:=s.findIdx? fun b=>!a0H b
abbrev a4v(s:By):PV:=.tup [IN ((Z8 s).getD s.length),I (if(Z8 s).isSome then 60 else 0)]
theorem b0z(s:By)(hs:s.length≤1100000000):F0 35 [0,0] [St s] (a4v s):=by
 refine E4 c35 0 (by simp[X35]) fun Q a l=>?_;simp[X35];refine I6 (fun(k:Nat) vs h=>k≤s.length∧(∀j,(hj:j<s.length)→j<k→a0H s[j]=true)∧vs=[St s,.uu,.uu,.uu,IN s.length,IN k,.uu,.uu]∧h=[]) (fun k=>s.length-k) 0 ?_ ?_
 . simp
 . rintro k vs h ⟨g1,g2,rfl,rfl⟩ Q' e f g;by_cases c:k<s.length
   . have hw:=wk1 k i9;simp[c];refine m6 (c6E s[k]) ?_;cases d:a0H s[k]
     . simp;refine g _ _ ?_;simp;have:Z8 s=some k:=by
        unfold Z8;rw[a1Y];exact⟨c,by simp[d],fun j hj=>by simp[g2 j i9 hj]⟩
       refine a _ _ ?_;simp[X35,this]
     . simp[hw];refine e (k+1) _ _ i9 ?_;simp;refine⟨i9,fun j hj m=>?_⟩;by_cases i:j<k
       . exact g2 j hj i
       . obtain rfl:j=k:=i9;exact d
   . obtain rfl:k=s.length:=i9;have:Z8 s=none:=by
      unfold Z8;rw[a5P];intro b hb;obtain⟨j,hj,rfl⟩:=a1t hb;simp[g2 j hj hj]
     simp;refine f _ _ _ ?_;simp;refine a _ _ ?_;simp[X35,this]
theorem a7m(t:j9)(s:State)(b:OkT t)(hs:OkS s):F0 30 [0] [TP t,SP s] (B (C0 t s)):=by
 refine E4 c30 2 (by simp[X30]) fun Q a d=>?_;have h1:=b0v t.accept s.mode b.accept hs.mode;have c:=b0v s.need 0 hs.need i9;by_cases hm:s.mode<t.modes
 . simp[X30,hm];refine m6 h1 ?_;cases hb:bit t.accept s.mode
   . simp;refine a _ _ ?_;simp[X30,C0,hb]
   . simp;refine m6 c ?_;simp;refine a _ _ ?_;simp[X30,C0,hb,hm]
 . simp[X30,hm];refine a _ _ ?_;simp[X30,C0,hm]
abbrev a1z(o:Option State):PV:=.tup [SP (o.getD D7),B o.isSome]
theorem a8H(t:j9)(s:State)(k:Nat)(i:OkT t)(hs:OkS s)(v:k≤1000000):F0 50 [0,0,0,0] [TP t,SP s,IN k] (a1z (step t s k)):=by
 refine E4 c50 4 (by simp[X50]) fun Q j w=>?_;have hlen:=i.len;by_cases d:k<t.rules.length
 . have g:¬((t.rules.length:Int)≤k):=i9;have b:step t s k=a5w t.rules[k] s:=(by unfold step;rw[m7 d];rfl);have hr:=i.a1p _ (B7 d);simp[X50,d,g];generalize t.rules[k]=r at hr b;unfold a5w at b;have c:∀(o:Option State) vs h,step t s k=o→fin X50.results [0,0,0,0] (a1z o) vs h→Q .ret vs h:=fun o vs h x y=>j _ _ (by grind);by_cases e:r.src=s.mode
   . simp[e];refine m6 (b0v r.left s.last hr.left (by have:=hs.last;omega)) ?_;cases hb:bit r.left s.last
     . rw[if_pos (.inr hb)]at b;simp;refine c _ _ _ b ?_;simp[X50,D7]
     . rw[if_neg (by simp[e,hb])]at b;by_cases hp:r.print=[]
       . rw[if_pos hp]at b;simp[hp,b2v hs.need hr.right];by_cases f:s.need&&&r.right=0
         . rw[if_pos f]at b;simp[f];refine c _ _ _ b ?_;simp[X50,D7]
         . rw[if_neg f]at b;have z:¬((s.need&&&r.right:Nat):Int)=0:=i9;simp[f];refine c _ _ _ b ?_;simp[X50]
       . rw[if_neg hp]at b;have h0:0<r.print.length:=a2p.2 hp;have n:=a9X r.print[0];have p:=a9X r.print[r.print.length-1];have q:r.print.headD 0=r.print[0]:=(by obtain⟨a,l,h⟩:=a7P hp;simp[h]);have el:r.print.getLastD 0=r.print[r.print.length-1]:=(by grind);have u:r.print.length-1<r.print.length:=i9;have hlen:=hr.print;have hw:IntKind.i64.wrap ((r.print.length:Int)-1)=((r.print.length-1:Nat):Int):=(by rw[wrap_ok i9 i9];omega);rw[q,el]at b;simp[hp,h0];refine m6 n ?_;simp;refine m6 (b0v s.need _ hs.need (by have:=b0Q r.print[0];omega)) ?_;cases m:bit s.need (a1r r.print[0])
         . rw[if_pos m]at b;simp;refine c _ _ _ b ?_;simp[X50,D7]
         . rw[if_neg (by simp[m])]at b;simp[hw,u];refine m6 p ?_;simp;refine c _ _ _ b ?_;simp[X50]
   . rw[if_pos (.inl e)]at b;simp[e];refine c _ _ _ b ?_;simp[X50,D7]
 . have g:((t.rules.length:Int)≤k):=i9;have b:step t s k=none:=(by unfold step;rw[a0d i9];rfl);simp[X50,d,g];refine j _ _ ?_;simp[X50,D7,b]
set_option maxHeartbeats 8000000
def a3c(s:By):Bool:=s.any fun b=>decide (a1r b=4)
def a0F(r:O9)(modes:Nat):Bool:=
 if 4<r.print.length∨r.cells.length<1∨4<r.cells.length then false
 else if(Z8 r.print).isSome then false
 else if r.left<1∨63<r.left∨r.right<1∨63<r.right then false
 else if modes≤r.src∨modes≤r.dst then false
 else if a3c r.print then decide (r.print.length=1∧r.cells=[0])
 else r.cells.all fun c=>decide (c<64)&&decide (c≠63)&&decide (c≠0)
theorem c5f(s:By)(hs:s.length≤1100000000):F0 121 [0] [St s] (B (a3c s)):=by
 refine E4 c121 0 (by simp[a9c]) fun Q a i=>?_;simp[a9c];refine I6 (fun(k:Nat) vs h=>k≤s.length∧(∀j,(hj:j<s.length)→j<k→a1r s[j]≠4)∧vs=[St s,.uu,.uu,IN s.length,IN k,.uu,.uu]∧h=[]) (fun k=>s.length-k) 0 ?_ ?_
 . simp
 . rintro k vs h ⟨g1,g2,rfl,rfl⟩ Q' d e f;by_cases g:k<s.length
   . have hw:=wk1 k i9;simp[g];refine m6 (a9X s[k]) ?_;by_cases c:a1r s[k]=4
     . simp[c];refine f _ _ ?_;simp;have:a3c s=true:=by
        unfold a3c
        grind
       refine a _ _ ?_;simp[a9c,this]
     . simp[hw,c];refine d (k+1) _ _ i9 ?_;simp
       grind
   . obtain rfl:k=s.length:=i9;have:a3c s=false:=by
      unfold a3c;rw[List.any_eq_false];intro b hb;obtain⟨j,hj,rfl⟩:=a1t hb;simp[g2 j hj hj]
     simp;refine e _ _ _ ?_;simp;refine a _ _ ?_;simp[a9c,this]
theorem c4T(c:Nat):F0 122 [0] [UN c] (B (decide (c<64))):=by refine E4 c122 0 (by simp[b0o]) fun Q a b=>?_;simp[b0o];refine a _ _ ?_;simp[b0o]
theorem c6D(a b:List Nat)(q:a.length≤1100000000):F0 123 [0] [CL a,CL b] (B (decide (a=b))):=by
 refine E4 c123 0 (by simp[a6y]) fun Q d r=>?_;by_cases c:a.length=b.length
 . simp[a6y,c];refine I6 (fun(k:Nat) vs h=>k≤b.length∧(∀j,(hj:j<b.length)→j<k→a[j]'i9=b[j])∧vs=[CL a,CL b,.uu,.uu,.uu,IN b.length,IN k,.uu,.uu]∧h=[]) (fun k=>b.length-k) 0 ?_ ?_
   . simp
   . rintro k vs h ⟨g1,g2,rfl,rfl⟩ Q' m n o;by_cases g:k<b.length
     . have hw:=wk1 k i9;have i:k<a.length:=i9;by_cases f:a[k]=b[k]
       . simp[g,i,f,hw];refine m (k+1) _ _ i9 ?_;simp
         grind
       . have:¬a=b:=fun e=>f (by subst e;rfl);have p:¬((a[k]:Nat):Int)=b[k]:=i9;simp[g,i,f,p];refine o _ _ ?_;simp;refine d _ _ ?_;simp[a6y,this]
     . obtain rfl:k=b.length:=i9;have:a=b:=W3 c fun j h1 l=>g2 j l l;simp;refine n _ _ _ ?_;simp;refine d _ _ ?_;simp[a6y,this]
 . simp[a6y,c];refine d _ _ ?_;have:¬a=b:=fun e=>c (by rw[e]);simp[a6y,this]
theorem b6R(a b:O9):(a=b)=(a.src=b.src∧a.dst=b.dst∧a.left=b.left∧a.right=b.right∧a.print=b.print∧a.cells=b.cells):=by
 cases a;cases b;simp only[O9.mk.injEq];apply propext;constructor
 . grind
 . grind
theorem c2H(a b:O9)(h:a.cells.length≤1100000000):F0 104 [0] [RP a,RP b] (B (decide (a=b))):=by
 refine E4 c104 2 (by simp[a2E]) fun Q e j=>?_;have he:=b6R a b;by_cases h1:a.src=b.src
 . by_cases c:a.dst=b.dst
   . by_cases d:a.left=b.left
     . by_cases f:a.right=b.right
       . by_cases g:a.print=b.print
         . simp[a2E,h1,c,d,f,g];refine m6 (c6D a.cells b.cells h) ?_;simp;refine e _ _ ?_;simp[a2E,he,h1,c,d,f,g]
         all_goals
          have i:(a.print==b.print)=false:=beq_eq_false_iff_ne.2 g;simp[a2E,h1,c,d,f,i];refine e _ _ ?_;simp[a2E,he,h1,c,d,f,g]
       all_goals
        simp[a2E,h1,c,d,f];refine e _ _ ?_;simp[a2E,he,h1,c,d,f]
     all_goals
      simp[a2E,h1,c,d];refine e _ _ ?_;simp[a2E,he,h1,c,d]
   all_goals
    simp[a2E,h1,c];refine e _ _ ?_;simp[a2E,he,h1,c]
 all_goals
  simp[a2E,h1];refine e _ _ ?_;simp[a2E,he,h1]
theorem c6l(r:O9)(m:Nat)(hr:OkR r)(hm:m≤1000000):F0 103 [0] [RP r,IN m] (B (a0F r m)):=by
 refine E4 c103 1 (by simp[T5]) fun Q a E=>?_;have he:a0F r m=(if 4<r.print.length∨r.cells.length<1∨4<r.cells.length then false
  else if(Z8 r.print).isSome then false
  else if r.left<1∨63<r.left∨r.right<1∨63<r.right then false
  else if m≤r.src∨m≤r.dst then false
  else if a3c r.print then decide (r.print.length=1∧r.cells=[0])
  else r.cells.all fun c=>decide (c<64)&&decide (c≠63)&&decide (c≠0)):=rfl
 have F:=hr.print;have G:=hr.cells;by_cases b:4<r.print.length
 . simp[T5,b];refine a _ _ ?_;simp[T5,he,b]
 by_cases a2:r.cells.length<1
 . simp[T5,b,a2];refine a _ _ ?_;simp[T5,he,a2]
 by_cases a3:4<r.cells.length
 . simp[T5,b,a2,a3];refine a _ _ ?_;simp[T5,he,a3]
 rw[if_neg i9]at he;have d:=b0z r.print i9;cases hb:Z8 r.print with
 |some k=>
  simp only[a4v,hb]at d;simp[T5,b,a2,a3];refine m6 d ?_;simp;refine a _ _ ?_;simp[T5,he,hb]
 |none=>
  simp only[a4v,hb]at d;rw[if_neg (by simp[hb])]at he;by_cases f:r.left<1
  . simp[T5,b,a2,a3];refine m6 d ?_;simp[f];refine a _ _ ?_;simp[T5,he,f]
  by_cases g:63<r.left
  . simp[T5,b,a2,a3];refine m6 d ?_;simp[f,g];refine a _ _ ?_;simp[T5,he,g]
  by_cases i:r.right<1
  . simp[T5,b,a2,a3];refine m6 d ?_;simp[f,g,i];refine a _ _ ?_;simp[T5,he,i]
  by_cases l:63<r.right
  . simp[T5,b,a2,a3];refine m6 d ?_;simp[f,g,i,l];refine a _ _ ?_;simp[T5,he,l]
  rw[if_neg i9]at he;by_cases n:m≤r.src
  . simp[T5,b,a2,a3];refine m6 d ?_;simp[f,g,i,l,n];refine a _ _ ?_;simp[T5,he,n]
  by_cases q:m≤r.dst
  . simp[T5,b,a2,a3];refine m6 d ?_;simp[f,g,i,l,n,q];refine a _ _ ?_;simp[T5,he,q]
  rw[if_neg i9]at he;have s:=c5f r.print i9;cases hs:a3c r.print
  . rw[if_neg (by simp[hs])]at he;rw[hs]at s;simp[T5,b,a2,a3];refine m6 d ?_;simp[f,g,i,l,n,q];refine m6 s ?_;simp;refine I6 (fun(k:Nat) vs h=>k≤r.cells.length∧(∀j,(hj:j<r.cells.length)→j<k→(r.cells[j]<64∧r.cells[j]≠63∧r.cells[j]≠0))∧
     vs=[.uu,.uu,.uu,.uu,.uu,.uu,.uu,.uu,.uu,.uu,.uu,CL r.cells,IN r.cells.length,IN k,.uu,.uu]∧h=[(0,.dead)]) (fun k=>r.cells.length-k) 0 ?_ ?_
    . simp
    . rintro k vs h ⟨g1,g2,rfl,rfl⟩ Q' z A v;by_cases o:k<r.cells.length
      . have hw:=wk1 k i9;have w:¬(r.cells[k]<64∧r.cells[k]≠63∧r.cells[k]≠0)→a0F r m=false:=fun C=>by
         rw[he,List.all_eq_false];exact⟨r.cells[k],B7 o,by simpa[and_assoc]using C⟩
        have t:=c4T r.cells[k];by_cases p:r.cells[k]<64
        . by_cases u:r.cells[k]=63
          . simp[o];refine m6 t ?_;simp[p,u];refine v _ _ ?_;simp;refine a _ _ ?_;simp[T5,w (by simp[u])]
          . by_cases x:r.cells[k]=0
            . simp[o];refine m6 t ?_;simp[p,u,x];refine v _ _ ?_;simp;refine a _ _ ?_;simp[T5,w (by simp[x])]
            . simp[o];refine m6 t ?_;simp[p,u,x,hw];refine z (k+1) _ _ i9 ?_;simp
              grind
        . simp[o];refine m6 t ?_;simp[p];refine v _ _ ?_;simp;refine a _ _ ?_;simp[T5,w (by simp[p])]
      . obtain rfl:k=r.cells.length:=i9;have:a0F r m=true:=by
         rw[he,B0];intro c D;obtain⟨j,hj,rfl⟩:=a1t D
         grind
        simp;refine A _ _ _ ?_;simp;refine a _ _ ?_;simp[T5,this]
  . rw[if_pos hs]at he;rw[hs]at s;simp[T5,b,a2,a3];refine m6 d ?_;simp[f,g,i,l,n,q];refine m6 s ?_;by_cases f1:r.print.length=1
    . by_cases f2:r.cells.length=1
      . obtain⟨c0,y⟩:=a9E.1 f2;rw[y]at he;simp[f1,y];refine a _ _ ?_;simp[T5,he,f1]
      . have:¬r.cells=[0]:=fun e=>f2 (by rw[e];rfl);simp[f1,f2];refine a _ _ ?_;simp[T5,he,f1,this]
    . simp[f1];refine a _ _ ?_;simp[T5,he,f1]
def U6(t:j9):Bool:=
 if t.modes<1∨8<t.modes then false
 else if t.accept=0∨2^t.modes≤t.accept then false
 else if t.rules.length<1∨64<t.rules.length then false
 else(t.rules.all fun r=>a0F r t.modes)&&decide t.rules.Nodup
def b3f(t:j9)(k:Nat):Prop:=(∀j,(hj:j<t.rules.length)→j<k→a0F t.rules[j] t.modes=true)∧∀i j,(hj:j<t.rules.length)→(hi:i<j)→j<k→t.rules[i]≠t.rules[j]
theorem b5R{t:j9}(h:b3f t t.rules.length):((t.rules.all fun r=>a0F r t.modes)&&decide t.rules.Nodup)=true:=by obtain⟨h1,a⟩:=h;rw[G4];refine⟨B0.2 fun r hr=>?_,decide_eq_true (a5Q.2 fun i j hi hj b=>a i j hj b hj)⟩;obtain⟨j,hj,rfl⟩:=a1t hr;exact h1 j hj hj
theorem b9p{m:Nat}(h:m≤8):IntKind.i64.wrap (2^min m 64)=((2^m:Nat):Int):=by
 have:∀n:Fin 9,IntKind.i64.wrap (2^min n.val 64)=((2^n.val:Nat):Int):=by decide+kernel
 exact this ⟨m,i9⟩
abbrev dd:Row:=(0,.dead)
theorem c6G(t:j9)(v:OkT t):∃i e:Int,(e=0↔U6 t=true)∧F0 70 [0,0] [TP t] (.tup [I i,I e]):=by
 suffices z:∃r,(∃i e:Int,(e=0↔U6 t=true)∧r=.tup [I i,I e])∧F0 70 [0,0] [TP t] r by obtain⟨r,⟨i,e,h1,rfl⟩,c⟩:=z;exact⟨i,e,h1,c⟩
 refine a1C mixed (X:=X70) c70 5 (by simp[X70]) (by kernel_rfl) fun Q a N=>?_;have f:U6 t=(if t.modes<1∨8<t.modes then false
  else if t.accept=0∨2^t.modes≤t.accept then false
  else if t.rules.length<1∨64<t.rules.length then false
  else(t.rules.all fun r=>a0F r t.modes)&&decide t.rules.Nodup):=rfl
 have b:∀i e:Int,e≠0→U6 t=false→∃A w:Int,(w=0↔U6 t=true)∧PV.tup [I i,I e]=.tup [I A,I w]:=fun i e he h=>⟨i,e,by simp[he,h],rfl⟩
 by_cases d:t.modes<1
 . simp[X70,d];refine a _ _ _ (b (-1) 1 I7 (by grind)) ?_;simp[X70]
 by_cases a2:8<t.modes
 . simp[X70,d,a2];refine a _ _ _ (b (-1) 1 I7 (by grind)) ?_;simp[X70]
 rw[if_neg i9]at f;by_cases a3:t.accept=0
 . simp[X70,d,a2,a3];refine a _ _ _ (b (-1) 1 I7 (by grind)) ?_;simp[X70]
 have o:=b9p (m:=t.modes) i9;have O:=v.accept;have p:IntKind.i64.wrap (t.accept:Int)=t.accept:=I9;have q:((2:Int)^t.modes≤(t.accept:Int))=(2^t.modes≤t.accept):=by grind
 by_cases a4:2^t.modes≤t.accept
 . simp[X70,d,a2,a3,IntKind.bits,o,p,q,a4];refine a _ _ _ (b (-1) 1 I7 (by grind)) ?_;simp[X70]
 rw[if_neg i9]at f;by_cases a5:t.rules.length<1
 . have B:t.rules=[]:=a0V.1 i9;simp[X70,d,a2,a3,IntKind.bits,o,p,q,a4,B];refine a _ _ _ (b (-1) 1 I7 (by grind)) ?_;simp[X70]
 by_cases x:64<t.rules.length
 . simp[X70,d,a2,a3,IntKind.bits,o,p,q,a4,a5,x];refine a _ _ _ (b (-1) 1 I7 (by grind)) ?_;simp[X70]
 rw[if_neg i9]at f;simp[X70,d,a2,a3,IntKind.bits,o,p,q,a4,a5,x];refine I6 (fun(k:Nat) vs h=>k≤t.rules.length∧b3f t k∧vs=[.uu,.ptr 3 1 0,.uu,.uu,.uu,.uu,.uu,.uu,.uu,.uu,.slc (t.rules.map RP),IN t.rules.length,IN k,.uu,.uu,.uu,.uu,.uu,.uu,.uu]∧
  h=[dd,dd,dd,(1,.var [IN t.modes,UN t.accept,.slc (t.rules.map RP)]),dd]) (fun k=>t.rules.length-k) 0 ?_ ?_
 . simp;exact⟨fun j _ h=>absurd h i9,fun i j _ _ h=>absurd h i9⟩
 . rintro k vs h ⟨g1,g2,rfl,rfl⟩ Q' C D y;by_cases g:k<t.rules.length
   . have hw:=wk1 k i9;have E:=v.a1p _ (B7 g);have s:=c6l t.rules[k] t.modes E i9;cases hs:a0F t.rules[k] t.modes
     . have l:U6 t=false:=by
        rw[f,show(t.rules.all fun r=>a0F r t.modes)=false from List.all_eq_false.2 ⟨_,B7 g,by simp[hs]⟩];rfl
       rw[hs]at s;simp[g];refine m6 s ?_;simp;refine y _ _ ?_;simp;refine a _ _ _ (b k 20 I7 l) ?_;simp[X70]
     . rw[hs]at s;simp[g];refine m6 s ?_;simp[show k≤t.rules.length by omega];refine I6 (fun(j:Nat) vs h=>j≤k∧(∀i,(hi:i<j)→(n:j≤k)→t.rules[i]≠t.rules[k])∧vs=[.uu,.ptr 3 1 0,.uu,.uu,IN k,.ptr 4 1 0,.uu,.uu,.uu,.uu,.slc (t.rules.map RP),IN t.rules.length,IN k,.uu,.uu,.slc ((t.rules.map RP).take k),IN k,IN j,.uu,.uu]∧
        h=[dd,dd,dd,(1,.var [IN t.modes,UN t.accept,.slc (t.rules.map RP)]),(1,.var [St t.rules[k].print,CL t.rules[k].cells,UN t.rules[k].left,UN t.rules[k].right,IN t.rules[k].src,IN t.rules[k].dst])]) (fun j=>k-j) 0 ?_ ?_
       . simp[show k≤t.rules.length by omega]
       . rintro j vs h ⟨F,G,rfl,rfl⟩ Q'' H J K;by_cases hj:j<k
         . have u:j<t.rules.length:=i9;have L:=wk1 j i9;have heq:=c2H t.rules[j] t.rules[k] (by have:=(v.a1p _ (B7 u)).cells;omega);by_cases n:t.rules[j]=t.rules[k]
           . have l:U6 t=false:=by
              rw[f,show decide t.rules.Nodup=false from decide_eq_false fun M=>a5Q.1 M j k u g hj n,Bool.and_false]
             simp only[n,decide_true]at heq;simp[hj,u,n];refine m6 heq ?_;simp;refine K _ _ ?_;simp;refine y _ _ ?_;simp;refine a _ _ _ (b k 20 I7 l) ?_;simp[X70]
           . simp only[n,decide_false]at heq;simp[hj,u];refine m6 heq ?_;simp[L];refine H (j+1) _ _ i9 ?_;simp;refine⟨i9,fun i hi P=>?_⟩;by_cases c:i<j
             . exact G i c F
             . grind
         . obtain rfl:j=k:=i9;simp;refine J _ _ _ ?_;simp[hw];refine C (j+1) _ _ i9 ?_;simp;refine⟨i9,fun i hi R=>?_,fun i m hm hi S=>?_⟩
           . by_cases c:i<j
             . exact g2.1 i hi c
             . obtain rfl:i=j:=i9;exact hs
           . by_cases c:m<j
             . exact g2.2 i m hm hi c
             . grind
   . obtain rfl:k=t.rules.length:=i9;have l:U6 t=true:=(by rw[f];exact b5R g2);simp;refine D _ _ _ ?_;simp;refine a _ _ _ ⟨0,0,by simp[l],rfl⟩ ?_;simp[X70]
theorem b4E(t:j9)(a:OkT t):F0 36 [0] [TP t] (B (U6 t)):=by refine E4 c36 1 (by simp[X36]) fun Q b f=>?_;obtain⟨i,e,he,c⟩:=c6G t a;simp[X36];refine m6 c ?_;simp;refine b _ _ ?_;simp[X36];cases d:U6 t<;>simp[d]at he⊢ <;>exact he
structure a2e(s:State):Prop where
 mode:s.mode<8
 last:s.last≤5
 need:s.need<64
theorem a2e.ok{s:State}(h:a2e s):OkS s:=⟨by have:=h.mode;omega,h.last,by have:=h.need;omega⟩
theorem b3X:a2e start:=⟨I7,I7,I7⟩
structure s8(t:j9):Prop where
 m1:1≤t.modes
 m8:t.modes≤8
 a0:t.accept≠0
 a8:t.accept<2^t.modes
 l1:1≤t.rules.length
 l64:t.rules.length≤64
 sound:∀r∈t.rules,a0F r t.modes=true
 nodup:t.rules.Nodup
theorem a9q(t:j9):U6 t=true↔s8 t:=by
 unfold U6;constructor
 . intro h;split at h
   . cases h
   split at h
   . cases h
   split at h
   . cases h
   rw[G4,B0,decide_eq_true_eq]at h;exact⟨i9,i9,i9,i9,i9,i9,h.1,h.2⟩
 . rintro⟨h1,c,d,e,f,g,a,b⟩;rw[if_neg i9,if_neg i9,if_neg i9,G4,B0,decide_eq_true_eq];exact⟨a,b⟩
structure Snd(r:O9)(m:Nat):Prop where
 p4:r.print.length≤4
 c1:1≤r.cells.length
 c4:r.cells.length≤4
 text:Z8 r.print=none
 left1:1≤r.left
 left:r.left≤63
 right1:1≤r.right
 right:r.right≤63
 src:r.src<m
 dst:r.dst<m
 cell:∀c∈r.cells,c<63
theorem a2w{r:O9}{m:Nat}(h:a0F r m=true):Snd r m:=by
 unfold a0F at h;split at h
 . cases h
 split at h
 . cases h
 rename_i hb;split at h
 . cases h
 split at h
 . cases h
 have a:Z8 r.print=none:=by simpa using hb
 refine⟨i9,i9,i9,a,i9,i9,i9,i9,i9,i9,?_⟩;split at h
 . grind
 . grind
theorem s8.snd{t:j9}(h:s8 t){r:O9}(hr:r∈t.rules):Snd r t.modes:=a2w (h.sound r hr)
theorem s8.ok{t:j9}(h:s8 t):OkT t:=by have b:2^t.modes≤2^8:=Nat.pow_le_pow_right I7 h.m8;refine⟨by have:=h.m8;omega,by have:=h.a8;omega,by have:=h.l64;omega,fun r hr=>?_⟩;have s:=h.snd hr;have:=h.m8;exact⟨by have:=s.p4;omega,by have:=s.c4;omega,fun c a=>by have:=s.cell c a;omega,by have:=s.left;omega,by have:=s.right;omega,by have:=s.src;omega,by have:=s.dst;omega⟩
theorem b8i{t:j9}{s s':State}{k:Nat}(a:s8 t)(hs:a2e s)(h:step t s k=some s'):a2e s':=by
 unfold step at h;obtain⟨r,hr,h⟩:=Y4.1 h;have b:=a.snd (D4 hr);have hd:r.dst<8:=by have:=b.dst;have:=a.m8;omega
 unfold a5w at h;split at h
 . cases h
 split at h
 . split at h
   . cases h
   . cases h;exact⟨hd,hs.last,Nat.lt_of_le_of_lt Nat.and_le_left hs.need⟩
 . split at h
   . cases h
   . cases h;exact⟨hd,b0Q _,by have:=b.right;show r.right<64;omega⟩
def code(s:State):Nat:=(s.mode*6+s.last)*64+s.need
theorem c6N{s:State}(h:a2e s):code s<3072:=by unfold code;have:=h.mode;have:=h.last;have:=h.need;omega
theorem c1d{a b:State}(c:a2e a)(hb:a2e b)(h:code a=code b):a=b:=by unfold code at h;have:=c.last;have:=hb.last;have:=c.need;have:=hb.need;cases a;cases b;simp only[State.mk.injEq]at*;omega
theorem a3H:∀(n:Nat) (l:List Nat),l.Nodup→(∀x∈l,x<n)→l.length≤n
 |0,l,_,h=>by cases l with|nil=>simp|cons a l=>exact absurd (h a a3v) i9
 |n+1,l,b,h=>by
  have h1:=a3H n (l.erase n) (b.erase n) fun x c=>by have d:=h x (List.mem_of_mem_erase c);have:x≠n:=fun e=>(by subst e;exact absurd c (b.not_mem_erase));omega
  have:=List.length_erase_le (a:=n) (l:=l);have f:l.length≤(l.erase n).length+1:=by grind
  omega
theorem c7u{l:List State}(b:l.Nodup)(a:∀s∈l,a2e s):l.length≤3072:=by
 have:=a3H 3072 (l.map code) (by
  rw[a9F,List.pairwise_map];exact(a9F.1 b).imp_of_mem fun c hb d e=>d (c1d (a _ c) (a _ hb) e)) fun x f=>by
  obtain⟨s,hs,rfl⟩:=E5.1 f;exact c6N (a s hs)
 simpa using this
abbrev Ex:=List State×List (List Nat)
def a4P(t:j9)(k:Nat)(a:Ex)(a1p:Nat):Ex:=
 match step t (a.1.getD k D7) a1p with
 |none=>a
 |some nx=>match a.1.idxOf? nx with
  |some n=>(a.1,a.2.set n (a.2.getD n []++[k]))
  |none=>(a.1++[nx],a.2++[[k]])
def Z7(t:j9)(k:Nat)(a:Ex)(j:Nat):Ex:=(List.range j).foldl (a4P t k) a
def a1e(t:j9):Nat→Nat→Ex→Ex
 |0,_,a=>a
 |f+1,k,a=>if k<a.1.length then a1e t f (k+1) (Z7 t k a t.rules.length)else a
def explore(t:j9):Ex:=a1e t 3073 0 ([start],[[]])
structure Inv(b:Nat)(a:Ex):Prop where
 nodup:a.1.Nodup
 val:∀s∈a.1,a2e s
 len:a.2.length=a.1.length
 short:∀l∈a.2,l.length≤b
 pos:1≤a.1.length
theorem Inv.le{b:Nat}{a:Ex}(h:Inv b a):a.1.length≤3072:=c7u h.nodup h.val
theorem c5Z{t:j9}(i:s8 t){b k a1p:Nat}{a:Ex}(h:Inv b a)(j:k<a.1.length):Inv (b+1) (a4P t k a a1p)∧a.1.length≤(a4P t k a a1p).1.length:=by
 have m:a.1.getD k D7=a.1[k]:=by grind
 unfold a4P;split
 . exact⟨⟨h.nodup,h.val,h.len,fun l c=>by have:=h.short l c;omega,h.pos⟩,m9 _⟩
 . rename_i nx hs;rw[m]at hs;have o:=b8i i (h.val _ (B7 j)) hs;split
   . rename_i n d;refine⟨⟨h.nodup,h.val,by simp[h.len],fun l c=>?_,h.pos⟩,m9 _⟩;have f:n<a.2.length:=by
      rw[h.len];have:=a1Y.1 d;obtain⟨h1,_⟩:=this;exact h1
     rcases a5f c with c|rfl
     . have:=h.short l c;omega
     . have:=h.short _ (B7 f);rw[u9,m7 f];simp;omega
   . rename_i d;have hm:nx∉a.1:=(by grind);refine⟨⟨?_,fun s hs=>?_,by simp[h.len],fun l c=>?_,l5⟩,l5⟩
     . rw[a5R];exact⟨h.nodup,l5,fun x p y g=>by simp at g;subst g;exact fun e=>hm (e▸p)⟩
     . rcases I4.1 hs with hs|hs
       . exact h.val s hs
       . simp at hs;subst hs;exact o
     . rcases I4.1 c with c|c
       . have:=h.short l c;omega
       . simp at c;subst c;simp
theorem a9I(t:j9)(k:Nat)(a:Ex)(j:Nat):Z7 t k a (j+1)=a4P t k (Z7 t k a j) j:=by unfold Z7;rw[a2q,b1J];rfl
theorem a5F{t:j9}(c:s8 t){b k:Nat}{a:Ex}(h:Inv b a)(d:k<a.1.length):∀j,Inv (b+j) (Z7 t k a j)∧a.1.length≤(Z7 t k a j).1.length
 |0=>⟨h,m9 _⟩
 |j+1=>by obtain⟨h1,f⟩:=a5F c h d j;rw[a9I];obtain⟨e,g⟩:=c5Z c (a1p:=j) h1 (by omega:k<_);exact⟨e,i9⟩
theorem a8z:Inv 0 ([start],[[]]):=⟨l5,fun s hs=>by simp at hs;subst hs;exact b3X,rfl,fun l a=>by simp at a;subst a;simp,l5⟩
abbrev FW(l:List Nat):PV:=if l=[]then .nils else .uslc (l.map IN)
abbrev E8(L:List State):List PV:=L.map SP
theorem c7t(a b:State):a1g (SP a) (SP b)=some (decide (a=b)):=by cases a;cases b;simp[a1g,X1,a0X,Bool.and_comm,Bool.and_assoc]
theorem b9Z(s:State):∀(L:List State) (i:Nat),a0t (SP s) (L.map SP) i=some ((L.idxOf? s).map (· +i))
 | [],i=>rfl
 |a::L,i=>by
  simp only[a0N,a0t];rw[c7t,b9Z s L (i+1)];by_cases h:a=s
  . grind
  . have h':¬s=a:=fun e=>h e.symm;simp[h',List.idxOf?,List.findIdx?_cons,h];cases List.findIdx? (fun x=>x==s) L<;>simp;omega
@[simp] theorem d2u(m l n:Nat)(L:List State):a0t (.agg [.int .i64 m,.int .i64 l,.int .u8 n]) (L.map SP) 0=some (L.idxOf? ⟨m,l,n⟩):=by have:=b9Z ⟨m,l,n⟩ L 0;simpa using this
@[simp] theorem d0W(l:List Nat):List.map (B4∘IN) l=l.map IN:=K3 fun _ _=>rfl
@[simp] theorem d0Q(l:List Nat):List.map (B4∘UN) l=l.map UN:=K3 fun _ _=>rfl
@[simp] theorem d1A(l:List State):List.map (B4∘SP) l=l.map SP:=K3 fun _ _=>rfl
@[simp] theorem d0X:FW []=.nils:=rfl
@[simp] theorem d1i(a:Nat)(l:List Nat):FW (a::l)=.uslc (IN a::l.map IN):=rfl
theorem c9I(F:List (List Nat)):∀x,x∈F→D5 (FW x)=true:=fun x _=>by unfold FW;split<;>rfl
@[simp ↓] theorem d1d(F:List (List Nat)):(∀x,x∈F→D5 (FW x)=true)=True:=eq_true (c9I F)
theorem b8a(t:j9)(m:s8 t):F0 105 [3,1] [TP t] (.tup [.uslc (E8 (explore t).1),.uslc ((explore t).2.map FW)]):=by
 refine E4 c105 17 (by simp[a9U]) fun Q E ac=>?_;simp[a9U];refine m6 b8s ?_;simp;refine I6 (fun(p:Nat×Ex) vs h=>a1e t (3073-p.1) p.1 p.2=explore t∧Inv (p.1*64) p.2∧p.1≤p.2.1.length∧
  vs=[.uu,.ptr 12 1 0,.uu,.uu,.uu,.own 13 1 p.2.1.length 3 0 p.2.1.length,.own 14 1 p.2.2.length 1 0 p.2.2.length,.mapv 15 1,IN p.1,.uu,.uu,.uu,.uu,.uu,.uu,.uu,.uu,.uu,.uu,.uu]∧
  h=[dd,dd,dd,dd,dd,dd,dd,dd,dd,dd,dd,dd,(1,.var [IN t.modes,UN t.accept,.slc (t.rules.map RP)]),(1,.arr 3 0 false (E8 p.2.1)),(1,.arr 1 0 false (p.2.2.map FW)),(1,.mp false (E8 p.2.1) ((List.range p.2.1.length).map IN)),dd]) (fun p=>3073-p.1) (0,([start],[[]])) ?_ ?_
 . simp;exact⟨rfl,a8z⟩
 . rintro⟨k,L,F⟩ vs h ⟨g1,g2,g3,rfl,rfl⟩ Q' G H ad;dsimp only at g1 g2 g3;have ae:=m.l64;have I:=g2.le;dsimp only at I;have J:=g2.len;dsimp only at J;by_cases o:k<L.length
   . have hw:=wk1 k i9;simp[o];refine I6 (fun(j:Nat) vs h=>j≤t.rules.length∧
      vs=[.uu,.ptr 12 1 0,.uu,.uu,.uu,.own 13 1 (Z7 t k (L,F) j).1.length 3 0 (Z7 t k (L,F) j).1.length,.own 14 1 (Z7 t k (L,F) j).2.length 1 0 (Z7 t k (L,F) j).2.length,.mapv 15 1,IN k,.uu,.uu,.uu,.uu,.uu,.uu,IN t.rules.length,IN j,.uu,.uu,.uu]∧
      h=[dd,dd,dd,dd,dd,dd,dd,dd,dd,dd,dd,dd,(1,.var [IN t.modes,UN t.accept,.slc (t.rules.map RP)]),(1,.arr 3 0 false (E8 (Z7 t k (L,F) j).1)),(1,.arr 1 0 false ((Z7 t k (L,F) j).2.map FW)),(1,.mp false (E8 (Z7 t k (L,F) j).1) ((List.range (Z7 t k (L,F) j).1.length).map IN)),dd]) (fun j=>t.rules.length-j) 0 ?_ ?_
     . simp[Z7]
     . rintro j vs h ⟨af,rfl,rfl⟩ Q2 q K ag;obtain⟨c,u⟩:=a5F m g2 o j;have b:=a9I t k (L,F) j;by_cases hj:j<t.rules.length
       . have r:=wk1 j i9;generalize Z7 t k (L,F) j=A at c u b;obtain⟨L',F'⟩:=A;have s:k<L'.length:=(by grind);have M:=c.le;have B:=c.len;dsimp only at M B;have g:=a8H t L'[k] j m.ok (c.val _ (B7 s)).ok i9;have N:L'.getD k D7=L'[k]:=(by grind);unfold a4P at b;simp only[N]at b;cases hs:step t L'[k] j with
         |none=>
          simp only[hs]at b;simp only[a1z,hs]at g;simp[hj,s];refine m6 g ?_;simp[r];refine q (j+1) _ _ i9 ?_;simp[b];omega
         |some nx=>
          simp only[hs]at b;simp only[a1z,hs]at g;cases e:L'.idxOf? nx with
          |some n=>
           simp only[e]at b;have C:n<L'.length:=by obtain⟨h1,_⟩:=a1Y.1 e;exact h1
           have v:n<F'.length:=i9;have O:F'.getD n []=F'[n]:=(by grind);rw[O]at b;simp[hj,s];refine m6 g ?_;by_cases w:F'[n]=[]
           . rw[w]at b;obtain⟨F3,d⟩:=ex1 (F'.set n ([]++[k]));have f:(List.map FW F').set n (.uslc [IN k])=List.map FW F3:=(by rw[←d,H9];rfl);have i:F'.length=F3.length:=(by rw[←d];simp);rw[d]at b;simp[r,e,C,v,w,f];refine q (j+1) _ _ i9 ?_;simp[b,i];omega
           . obtain⟨a,l,x⟩:=a7P w;rw[x]at b;obtain⟨F3,d⟩:∃F3,F'.set n ((a::l)++[k])=F3:=⟨_,rfl⟩
             have P:FW F'[n]=.uslc (IN a::l.map IN):=(by rw[x];rfl);have f:(List.map FW F').set n (.uslc (IN a::(l.map IN++[IN k])))=List.map FW F3:=(by rw[←d,H9];simp);have i:F'.length=F3.length:=(by rw[←d];simp);have R:=c.short _ (B7 v);rw[x]at R;have S:(l.length+1+1)*8≤140737488355328:=(by grind);rw[d]at b;simp[r,e,C,v,P,f,S];refine q (j+1) _ _ i9 ?_;simp[b,f,i];omega
          |none=>
           simp only[e]at b;obtain⟨L2,y⟩:=ex1 (L'++[nx]);have T:E8 L'++[.agg [IN nx.mode,IN nx.last,UN nx.need]]=E8 L2:=(by rw[←y];simp);have D:L'.length+1=L2.length:=(by rw[←y];simp);have U:List.map IN (List.range L'.length)++[IN L'.length]=List.map IN (List.range L2.length):=(by rw[←D,a2q];simp);obtain⟨F2,z⟩:=ex1 (F'++[[]]);have V:List.map FW F'++[.nils]=List.map FW F2:=(by rw[←z];simp);have W:F'.length+1=F2.length:=(by rw[←z];simp);have X:L2.length*24≤140737488355328:=i9;have Y:F2.length*24≤140737488355328:=i9;simp[hj,s];refine m6 g ?_;have Z:L'.length<F2.length:=i9;have aa:F2[L'.length]=[]:=(by grind);obtain⟨F3,d⟩:=ex1 (F'++[[k]]);have f:(List.map FW F2).set L'.length (.uslc [IN k])=List.map FW F3:=by rw[←z,←d,←B];simp
           have i:F2.length=F3.length:=(by grind);rw[y,d]at b;simp[r,e,T,D,U,V,W,X,Y,aa,Z,f];refine q (j+1) _ _ i9 ?_;simp[b,i];omega
       . obtain rfl:j=t.rules.length:=i9;simp;refine K _ _ _ ?_;simp[hw];refine G (k+1,Z7 t k (L,F) t.rules.length) _ _ i9 ?_;obtain⟨c,u⟩:=a5F m g2 o t.rules.length;dsimp only at u;have hex:a1e t (3073-k) k (L,F)=a1e t (3072-k) (k+1) (Z7 t k (L,F) t.rules.length):=by
          rw[show 3073-k=(3072-k)+1 by omega];simp only[a1e];rw[if_pos o]
         rw[hex]at g1;simp;refine⟨g1,⟨c.nodup,c.val,c.len,fun l ab=>by have:=c.short l ab;omega,c.pos⟩,i9⟩
   . obtain rfl:k=L.length:=i9;simp;refine H _ _ _ ?_;simp;refine E _ _ ?_;have hex:explore t=(L,F):=by
      rw[←g1,show 3073-L.length=(3072-L.length)+1 by omega];simp only[a1e];rw[if_neg i9]
     simp[a9U,hex]
def F6(t:j9):State→List Nat→Option State
 |s,[]=>some s
 |s,k::p=>(step t s k).bind fun s'=>F6 t s' p
def Live(t:j9)(s:State):Prop:=∃p s',F6 t s p=some s'∧C0 t s'=true
abbrev j4(t:j9):List State:=(explore t).1
open Classical in
noncomputable def M8(t:j9):List Bool:=(j4 t).map fun s=>decide (Live t s)
theorem b8n{t:j9}{s:State}(h:C0 t s=true):Live t s:=⟨[],s,rfl,h⟩
theorem b9M{t:j9}{s s':State}{k:Nat}(h:step t s k=some s')(a:Live t s'):Live t s:=by obtain⟨p,s2,h1,b⟩:=a;exact⟨k::p,s2,by simp[F6,h,h1],b⟩
theorem a5E(t:j9):∀(p q:List Nat) (s:State),F6 t s (p++q)=(F6 t s p).bind fun s'=>F6 t s' q
 | [],q,s=>rfl
 |k::p,q,s=>by
  simp only[a7L,F6];cases step t s k with
  |none=>rfl
  |some s'=>exact a5E t p q s'
theorem b3t{t:j9}(a:s8 t):∀{p:List Nat} {s s':State},a2e s→F6 t s p=some s'→a2e s'
 | [],s,s',hs,h=>by cases h;exact hs
 |k::p,s,s',hs,h=>by simp only[F6]at h;obtain⟨s1,h1,b⟩:=Y4.1 h;exact b3t a (b8i a hs h1) b
structure Part(t:j9)(k j:Nat)(a:Ex):Prop where
 len:a.2.length=a.1.length
 next:∀i (hi:i<a.1.length) m s',(i<k∨i=k∧m<j)→step t a.1[i] m=some s'→∃n,a.1[n]?=some s'∧i∈a.2.getD n []
 back:∀n i,i∈a.2.getD n []→∃(hi:i<a.1.length) (m:Nat),step t a.1[i] m=a.1[n]?
 root:a.1[0]?=some start
 come:∀s∈a.1,∃p,F6 t start p=some s
theorem a2s{t:j9}{s s':State}{m:Nat}(h:step t s m=some s'):m<t.rules.length:=by
 unfold step at h
 grind
theorem b6x{l:List (List Nat)}{n i:Nat}(h:i∈l.getD n []):n<l.length:=by
 refine Classical.byContradiction fun a=>?_
 grind
theorem c2R{t:j9}{k j:Nat}{a:Ex}(h:Part t k j a)(o:k<a.1.length):Part t k (j+1) (a4P t k a j):=by
 have w:a.1.getD k D7=a.1[k]:=by rw[u9,m7 o];rfl
 unfold a4P;rw[w];split
 . rename_i hs;refine⟨h.len,fun i hi m s' hm c=>?_,h.back,h.root,h.come⟩;refine h.next i hi m s' ?_ c
   grind
 . rename_i nx hs;split
   . rename_i n q;obtain⟨x,r,_⟩:=a1Y.1 q;have r:a.1[n]=nx:=(by simpa using r);have y:n<a.2.length:=(by rw[h.len];exact x);have z:∀b,(a.2.set n (a.2.getD n []++[k])).getD b []=if n=b then a.2.getD b []++[k]else a.2.getD b []:=fun b=>by
      simp only[u9];by_cases e:n=b
      . subst e;rw[F8 y,if_pos rfl];rfl
      . rw[F7 e,if_neg e]
     refine⟨by simp[h.len],fun i hi m s' hm c=>?_,fun b i hi=>?_,h.root,h.come⟩
     . by_cases f:i=k∧m=j
       . obtain⟨rfl,rfl⟩:=f
         grind
       . obtain⟨b,h1,u⟩:=h.next i hi m s' (by
          rcases hm with hm|⟨g,A⟩
          . exact .inl hm
          . exact .inr ⟨g,by have:m≠j:=fun e=>f ⟨g,e⟩;omega⟩) c
         grind
     . dsimp only at hi⊢;rw[z]at hi;split at hi
       . rename_i e;subst e;rcases I4.1 hi with hi|hi
         . exact h.back n i hi
         grind
       . exact h.back b i hi
   . rename_i q;have B:∀(i:Nat) (hi:i<a.1.length),(a.1++[nx])[i]'I2=a.1[i]:=fun i hi=>List.getElem_append_left hi;have C:∀b,b<a.1.length→(a.2++[[k]]).getD b []=a.2.getD b []:=fun b l=>by
      simp only[u9];rw[a1k (by rw[h.len];exact l)]
     have E:(a.2++[[k]]).getD a.1.length []=[k]:=by simp only[u9];rw[a3X (by rw[h.len];exact m9 _),h.len,a6L];rfl
     refine⟨by simp[h.len],fun i hi m s' hm c=>?_,fun b i hi=>?_,?_,fun s d=>?_⟩
     . have v:i<a.1.length:=by
        rcases hm with hm|⟨rfl,_⟩<;>omega
       dsimp only at c;rw[B i v]at c;by_cases f:i=k∧m=j
       . obtain⟨rfl,rfl⟩:=f
         grind
       . obtain⟨b,h1,u⟩:=h.next i v m s' (by
          rcases hm with hm|⟨g,A⟩
          . exact .inl hm
          . exact .inr ⟨g,by have:m≠j:=fun e=>f ⟨g,e⟩;omega⟩) c
         grind
     . dsimp only at hi⊢;have D:=b6x hi;simp[h.len]at D;by_cases l:b<a.1.length
       . rw[C b l]at hi;obtain⟨h1,m,u⟩:=h.back b i hi
         grind
       grind
     . have h0:=(B8.1 h.root).1;dsimp only;rw[a1k h0];exact h.root
     . rcases I4.1 d with d|d
       . exact h.come s d
       . simp at d;subst d;obtain⟨p,hp⟩:=h.come _ (B7 o);exact⟨p++[j],by rw[a5E,hp];simp[F6,hs]⟩
theorem b9I{t:j9}{k:Nat}{a:Ex}{b:Nat}(c:s8 t)(d:Inv b a)(h:Part t k 0 a)(e:k<a.1.length):∀j,Part t k j (Z7 t k a j)
 |0=>h
 |j+1=>by rw[a9I];exact c2R (b9I c d h e j) (by have:=(a5F c d e j).2;omega)
theorem c8L{t:j9}{k:Nat}{a:Ex}(h:Part t k t.rules.length a):Part t (k+1) 0 a:=
 ⟨h.len,fun i hi m s' hm b=>h.next i hi m s' (by
  have:=a2s b;rcases hm with hm|⟨_,hm⟩
  . by_cases e:i=k
    . exact .inr ⟨e,this⟩
    . exact .inl i9
  . omega) b,h.back,h.root,h.come⟩
theorem b3k{t:j9}(d:s8 t):∀(f k b:Nat) (a:Ex),Inv b a→Part t k 0 a→k≤a.1.length→3072<f+k→Part t (a1e t f k a).1.length 0 (a1e t f k a)∧∃b,Inv b (a1e t f k a)
 |0,k,b,a,c,h,g,i=>by have:=c.le;omega
 |f+1,k,b,a,c,h,g,i=>by
  simp only[a1e];by_cases e:k<a.1.length
  . rw[if_pos e];obtain⟨j,l⟩:=a5F d c e t.rules.length;exact b3k d f (k+1) _ _ j (c8L (b9I d c h e _)) i9 i9
  grind
theorem b5V(t:j9):Part t 0 0 ([start],[[]]):=
 ⟨rfl,fun i hi m s' hm a=>i9,fun n i hi=>by have:=b6x hi;simp at this;subst this;simp at hi,rfl,fun s hs=>by simp at hs;subst hs;exact⟨[],rfl⟩⟩
theorem a6u{t:j9}(a:s8 t):Part t (j4 t).length 0 (explore t):=(b3k a 3073 0 0 _ a8z (b5V t) l5 i9).1
theorem b1s{t:j9}(a:s8 t):∃b,Inv b (explore t):=(b3k a 3073 0 0 _ a8z (b5V t) l5 i9).2
theorem b9m{t:j9}(e:s8 t):∀(f k:Nat) (a:Ex),Inv (k*64) a→k≤a.1.length→Inv (3072*64) (a1e t f k a)
 |0,k,a,b,h=>by
  have:=b.le;exact⟨b.nodup,b.val,b.len,fun l c=>by have:=b.short l c;simp only[a1e]at*;omega,b.pos⟩
 |f+1,k,a,b,h=>by
  simp only[a1e];have hle:=b.le;by_cases g:k<a.1.length
  . rw[if_pos g];obtain⟨d,i⟩:=a5F e b g t.rules.length;have j:=e.l64;exact b9m e f (k+1) _ ⟨d.nodup,d.val,d.len,fun l c=>by have:=d.short l c;omega,d.pos⟩ i9
  . rw[if_neg g];exact⟨b.nodup,b.val,b.len,fun l c=>by have:=b.short l c;omega,b.pos⟩
theorem c4i{t:j9}(a:s8 t):∀l∈(explore t).2,l.length≤3072*64:=(b9m a 3073 0 _ a8z l5).short
theorem a0g{t:j9}(a:s8 t){s s':State}{k:Nat}(hs:s∈j4 t)(h:step t s k=some s'):s'∈j4 t:=by
 obtain⟨i,hi,rfl⟩:=a1t hs;obtain⟨n,h1,_⟩:=(a6u a).next i hi k s' (.inl hi) h
 grind
theorem a8J{t:j9}(a:s8 t):(j4 t).Nodup:=by obtain⟨b,h⟩:=b1s a;exact h.nodup
theorem a2R{t:j9}(a:s8 t){s:State}(hs:s∈j4 t):a2e s:=by obtain⟨b,h⟩:=b1s a;exact h.val s hs
theorem a0G{t:j9}(a:s8 t):(j4 t).length≤3072:=by obtain⟨b,h⟩:=b1s a;exact h.le
theorem a2j{t:j9}(a:s8 t):1≤(j4 t).length:=by obtain⟨b,h⟩:=b1s a;exact h.pos
theorem a2D{t:j9}(a:s8 t):(j4 t)[0]?=some start:=(a6u a).root
theorem b2g{t:j9}(a:s8 t):∀{p:List Nat} {s s':State},s∈j4 t→F6 t s p=some s'→s'∈j4 t
 | [],s,s',hs,h=>by cases h;exact hs
 |k::p,s,s',hs,h=>by simp only[F6]at h;obtain⟨s1,h1,b⟩:=Y4.1 h;exact b2g a (a0g a hs h1) b
structure AI(t:j9)(A:List Bool)(O:List Nat)(k m:Nat):Prop where
 len:A.length=(j4 t).length
 live:∀i:Nat,A[i]?=some true→∃s,(j4 t)[i]?=some s∧Live t s
 acc:∀(i:Nat) s,(j4 t)[i]?=some s→C0 t s=true→A[i]?=some true
 opn:∀i∈O,A[i]?=some true
 done:∀i:Nat,A[i]?=some true→i∉O→i≠k→∀j∈(explore t).2.getD i [],A[j]?=some true
 cur:∀j∈((explore t).2.getD k []).take m,A[j]?=some true
 kl:k<(j4 t).length→A[k]?=some true
 Z2:O.length+A.count false≤(j4 t).length
theorem b0A{A:List Bool}{i:Nat}(h:A[i]?=some false):(A.set i true).count false+1=A.count false:=by
 induction A generalizing i with
 |nil=>simp at h
 |cons a A b=>
  cases i with
  |zero=>simp at h;subst h;simp
  |succ i=>
   simp only[List.getElem?_cons_succ]at h;have:=b h;simp only[List.set_cons_succ,List.count_cons];omega
theorem AI.skip{t:j9}{A:List Bool}{O:List Nat}{k m j:Nat}(h:AI t A O k m)(hj:((explore t).2.getD k [])[m]?=some j)(a:A[j]?=some true):AI t A O k (m+1):=
 ⟨h.len,h.live,h.acc,h.opn,h.done,fun i hi=>by
  rw[L3,hj]at hi;rcases I4.1 hi with hi|hi
  . exact h.cur i hi
  . simp at hi;subst hi;exact a,h.kl,h.Z2⟩
theorem AI.push{t:j9}(g:s8 t){A:List Bool}{O:List Nat}{k m j:Nat}(h:AI t A O k m)(l:k<(j4 t).length)(hj:((explore t).2.getD k [])[m]?=some j)(c:A[j]?=some false):AI t (A.set j true) (O++[j]) k (m+1):=by
 have d:=(B8.1 c).1;have a:∀i,A[i]?=some true→(A.set j true)[i]?=some true:=fun i hi=>by
  by_cases e:j=i
  . subst e;rw[F8 d]
  . rw[F7 e];exact hi
 have v:(A.set j true)[j]?=some true:=F8 d;refine⟨by simp[h.len],fun i hi=>?_,fun i s h1 b=>a i (h.acc i s h1 b),fun i hi=>?_,fun i hi f n=>?_,fun i hi=>?_,fun h1=>a k (h.kl h1),?_⟩
 . by_cases e:j=i
   . subst e;have o:j∈(explore t).2.getD k []:=D4 hj;obtain⟨h1,w,b⟩:=(a6u g).back k j o;obtain⟨s,p,q⟩:=h.live k (h.kl l);rw[p]at b;exact⟨_,m7 h1,b9M b q⟩
   . rw[F7 e]at hi;exact h.live i hi
 . rcases I4.1 hi with hi|hi
   . exact a i (h.opn i hi)
   grind
 . have r:j≠i:=fun e=>f (by subst e;simp);rw[F7 r]at hi;exact fun x u=>a x (h.done i hi (fun e=>f (a4G _ e)) n x u)
 . rw[L3,hj]at hi;rcases I4.1 hi with hi|hi
   . exact a i (h.cur i hi)
   grind
 . have:=b0A c;have:=h.Z2;simp;omega
theorem AI.full{t:j9}{A:List Bool}{O:List Nat}{k a:Nat}(h:AI t A (O++[a]) k ((explore t).2.getD k []).length):AI t A O a 0:=by
 have hd:∀i,A[i]?=some true→i∉O++[a]→∀j∈(explore t).2.getD i [],A[j]?=some true:=fun i hi b j hj=>by
  by_cases e:i=k
  . subst e;exact h.cur j (by rw[M4];exact hj)
  . exact h.done i hi b e j hj
 refine⟨h.len,h.live,h.acc,fun i hi=>h.opn i (a4G _ hi),fun i hi b c=>hd i hi (fun hm=>?_),fun j hj=>by simp at hj,fun _=>h.opn a l5,by have:=h.Z2;simp at this;omega⟩
 grind
theorem AI.alive{t:j9}(f:s8 t){A:List Bool}{k:Nat}(h:AI t A [] k ((explore t).2.getD k []).length):A=M8 t:=by
 classical
 have hd:∀i,A[i]?=some true→∀j∈(explore t).2.getD i [],A[j]?=some true:=fun i hi j hj=>by
  by_cases e:i=k
  . subst e;exact h.cur j (by rw[M4];exact hj)
  . exact h.done i hi l5 e j hj
 have key:∀(p:List Nat) (i:Nat) (s s':State),(j4 t)[i]?=some s→F6 t s p=some s'→C0 t s'=true→A[i]?=some true:=fun p=>by
  induction p with
  |nil=>intro i s s' h1 b a;cases b;exact h.acc i s h1 a
  |cons m p g=>
   intro i s s' h1 b a;simp only[F6]at b;obtain⟨s1,c,l⟩:=Y4.1 b;obtain⟨hi,rfl⟩:=B8.1 h1;obtain⟨n,o,q⟩:=(a6u f).next i hi m s1 (.inl hi) c;exact hd n (g n s1 s' o l a) i q
 refine W3 (by rw[h.len];simp[M8]) fun i h1 b=>?_;simp only[M8,a0b];have hi:i<(j4 t).length:=by rw[←h.len];exact h1
 cases d:A[i]
 . symm;rw[decide_eq_false_iff_not];rintro⟨p,s',a,c⟩;have:=key p i _ s' (m7 hi) a c;rw[m7 h1,d]at this;cases this
 . symm;rw[decide_eq_true_iff];obtain⟨s,a,c⟩:=h.live i (by rw[m7 h1,d]);rw[m7 hi]at a;cases a;exact c
def a1q(t:j9)(i:Nat):List Bool:=(List.range (j4 t).length).map fun j=>decide (j<i)&&C0 t ((j4 t).getD j D7)
def a0L(t:j9)(i:Nat):List Nat:=(List.range i).filter fun j=>C0 t ((j4 t).getD j D7)
theorem a4n(t:j9)(i:Nat):(a1q t i).length=(j4 t).length:=by simp[a1q]
theorem a8G{t:j9}{i j:Nat}(hj:j<(j4 t).length):(a1q t i)[j]?=some (decide (j<i)&&C0 t (j4 t)[j]):=by
 simp only[a1q,H6,List.getElem?_range hj,a2o]
 grind
theorem c6J{t:j9}{i:Nat}(hi:i<(j4 t).length):a1q t (i+1)=if C0 t (j4 t)[i]then(a1q t i).set i true else a1q t i:=by
 apply a3u;intro j;by_cases hj:j<(j4 t).length
 . rw[a8G hj];split
   . rename_i a;by_cases e:i=j
     . subst e;rw[F8 (by rw[a4n];exact hi)];simp[a]
     . rw[F7 e,a8G hj];congr 2
       grind
   . rename_i a;rw[a8G hj];by_cases e:j=i
     . subst e;simp[a]
     . have:(j<i+1)=(j<i):=(by apply propext;omega);simp[this]
 . rw[a0d (by rw[a4n];omega),a0d];split
   . simp[a4n];omega
   . rw[a4n];omega
theorem c4x{t:j9}{i:Nat}(hi:i<(j4 t).length):a0L t (i+1)=if C0 t (j4 t)[i]then a0L t i++[i]else a0L t i:=by
 unfold a0L;have a:(j4 t).getD i D7=(j4 t)[i]:=by rw[u9,m7 hi];rfl
 rw[a2q,b1L,List.filter_cons,List.filter_nil,a];split<;>simp
theorem b6I(t:j9)(i:Nat):(a0L t i).length≤i:=by have:=List.length_filter_le (fun j=>C0 t ((j4 t).getD j D7)) (List.range i);simpa[a0L]using this
theorem b9J(p:Nat→Bool):∀l:List Nat,(l.filter p).length+(l.map p).count false=l.length
 | []=>rfl
 |a::l=>by
  have:=b9J p l
  grind
theorem AI.init(t:j9):AI t (a1q t (j4 t).length) (a0L t (j4 t).length) (j4 t).length 0:=by
 have a:∀{j},j<(j4 t).length→(a1q t (j4 t).length)[j]?=some (C0 t ((j4 t).getD j D7)):=fun{j} hj=>by rw[a8G hj,u9,m7 hj];simp[hj]
 have c:∀{j b},(a1q t (j4 t).length)[j]?=some b→j<(j4 t).length:=fun h=>by have:=(B8.1 h).1;rwa[a4n]at this
 refine⟨a4n _ _,fun i hi=>?_,fun i s h1 d=>?_,fun i hi=>?_,fun i hi e _=>?_,fun j hj=>by simp at hj,fun h=>absurd h (Nat.lt_irrefl _),?_⟩
 . have:=c hi;rw[a this,u9,m7 this]at hi;exact⟨_,m7 this,b8n (by simpa using hi)⟩
 . have:=(B8.1 h1).1
   grind
 . simp only[a0L,a7M,a1v]at hi;rw[a hi.1,hi.2]
 . exfalso;have:=c hi;rw[a this]at hi;exact e (by simp only[a0L,a7M,a1v];exact⟨this,by simpa using hi⟩)
 . have h1:=b9J (fun j=>C0 t ((j4 t).getD j D7)) (List.range (j4 t).length);have d:a1q t (j4 t).length=(List.range (j4 t).length).map fun j=>C0 t ((j4 t).getD j D7):=by
    unfold a1q;refine K3 fun j hj=>?_;simp[a1v.1 hj]
   rw[d];unfold a0L
   grind
theorem b1a(t:j9)(a:s8 t):F0 71 [3] [TP t] (.uslc (E8 (j4 t))):=by refine E4 c71 3 (by simp[X71]) fun Q b c=>?_;simp[X71];refine m6 (b8a t a) ?_;simp;refine b _ _ ?_;simp[X71]
abbrev FSl(l:List Nat):PV:=.slc (l.map IN)
theorem c3T(F:List (List Nat)):List.map B4 (List.map FW F)=F.map FSl:=by
 rw[a1w];refine K3 fun l _=>?_;cases l with
 |nil=>rfl
 |cons a l=>simp[B4,K8]
theorem b9S(t:j9)(c:s8 t):F0 87 [1] [TP t] (.uslc ((M8 t).map B)):=by
 refine E4 c87 14 (by simp[X87]) fun Q W X=>?_;have hex:=b8a t c;have X:=a0G c;have aw:=a2j c;have Y:=fun s hs=>(a2R c (s:=s) hs).ok;have Z:=c3T (explore t).2;have ax:(explore t).2.length=(j4 t).length:=(a6u c).len;have aa:(j4 t).length≤140737488355328:=i9;have ab:(j4 t).length≤9223372036854775807:=i9;simp[X87];refine m6 hex ?_;simp[Z,aa,ab];refine I6 (fun(i:Nat) vs h=>i≤(j4 t).length∧
  vs=[.uu,.ptr 9 1 0,.uu,.uu,.slc ((explore t).2.map FSl),.own 10 1 (j4 t).length 1 0 (j4 t).length,.own 11 1 (a0L t i).length 1 0 (a0L t i).length,.uu,.uu,.uu,.uu,.slc (E8 (j4 t)),IN (j4 t).length,IN i,.uu,.uu,.uu,.uu,.uu,.uu,.uu,.uu]∧
  h=[dd,dd,dd,dd,dd,dd,dd,dd,dd,(1,.var [IN t.modes,UN t.accept,.slc (t.rules.map RP)]),(1,.arr 1 0 false ((a1q t i).map B)),(1,.arr 1 0 false ((a0L t i).map IN)),dd,dd]) (fun i=>(j4 t).length-i) 0 ?_ ?_
 . simp;have h0:a0L t 0=[]:=rfl;refine⟨by rw[h0];rfl,?_,h0⟩;have hr:a1q t 0=List.replicate (j4 t).length false:=a7Q.2 ⟨a4n t 0,fun b hb=>by
    obtain⟨j,hj,rfl⟩:=a1t hb;have h1:=a8G (t:=t) (i:=0) (j:=j) (by rw[a4n]at hj;exact hj);rw[m7 hj]at h1;simpa using h1⟩
   rw[hr,List.map_replicate]
 . rintro i vs h ⟨g1,rfl,rfl⟩ Q' M ac ay;by_cases hi:i<(j4 t).length
   . have hw:=wk1 i i9;have v:=a7m t (j4 t)[i] c.ok (Y _ (B7 hi));have w:=c6J hi;have f:=c4x hi;have y:=a4n t i;have ad:=b6I t i;cases z:C0 t (j4 t)[i]
     . rw[if_neg (by simp[z])]at w f;rw[z]at v;simp[hi];refine m6 v ?_;simp[hw];refine M (i+1) _ _ i9 ?_;simp[w,f];omega
     . rw[if_pos z]at w f;rw[z]at v;have g:((a1q t i).map B).set i (.bool true)=(a1q t (i+1)).map B:=(by rw[w,H9]);have o:(a0L t i).map IN++[IN i]=(a0L t (i+1)).map IN:=(by rw[f];simp);have q:(a0L t i).length+1=(a0L t (i+1)).length:=(by rw[f];simp);have d:i<(a1q t i).length:=i9;have ae:(a0L t (i+1)).length*8≤140737488355328:=i9;simp[hi];refine m6 v ?_;simp[hw,hi,y,g,o,q,d,ae];refine M (i+1) _ _ i9 ?_;simp;omega
   . obtain rfl:i=(j4 t).length:=i9;have az:=AI.init t;simp;refine ac _ _ _ ?_;simp;refine I6 (fun(p:List Bool×List Nat×Nat×Nat) vs h=>AI t p.1 (p.2.1.take p.2.2.1) p.2.2.2 ((explore t).2.getD p.2.2.2 []).length∧p.2.2.1≤p.2.1.length∧p.2.1.length≤(j4 t).length∧
      vs=[.uu,.uu,.uu,.uu,.slc ((explore t).2.map FSl),.own 9 1 p.1.length 1 0 p.1.length,.own 10 1 p.2.1.length 1 0 p.2.2.1,.uu,.uu,.uu,.uu,.uu,.uu,.uu,.uu,.uu,.uu,.uu,.uu,.uu,.uu,.uu]∧
      h=[dd,dd,dd,dd,dd,dd,dd,dd,dd,(1,.arr 1 0 false (p.1.map B)),(1,.arr 1 0 false (p.2.1.map IN)),dd,dd,dd]) (fun p=>2*p.1.count false+p.2.2.1)
      (a1q t (j4 t).length,a0L t (j4 t).length,(a0L t (j4 t).length).length,(j4 t).length) ?_ ?_
     . have aA:(explore t).2.getD (j4 t).length []=[]:=by
        rw[u9,a0d i9];rfl
       have y:=a4n t (j4 t).length;have ad:=b6I t (j4 t).length;simp[y]
       grind
     . rintro⟨A,E,n,k⟩ vs h ⟨e,af,N,rfl,rfl⟩ Q2 ag ah aB;dsimp only at e af N;by_cases ai:n=0
       . subst ai;have r:=AI.alive c (k:=k) (by simpa using e);simp;refine ah _ _ _ ?_;simp;refine W _ _ ?_;simp[X87,r]
       . obtain⟨m,hm⟩:∃m,n=m+1:=⟨n-1,i9⟩
         have aj:0<n:=i9;have ak:IntKind.i64.wrap ((n:Int)-1)=(m:Int):=(by rw[wrap_ok i9 i9];omega);have al:m<n:=i9;have am:m≤n:=i9;have O:m<E.length:=i9;have an:E.take n=E.take m++[E[m]]:=(by rw[hm,L3,m7 O];rfl);rw[an]at e;have P:E[m]<(j4 t).length:=by have:=e.opn E[m] (a7N _ (H5.2 rfl));have:=(B8.1 this).1;rwa[e.len]at this
         have F:E[m]<(explore t).2.length:=i9;have R:=e.full;have S:(explore t).2.getD E[m] []=(explore t).2[E[m]]:=(by grind);have G:∀(x:Nat) (ao:x<((explore t).2[E[m]]).length),((explore t).2[E[m]])[x]<(j4 t).length:=fun x ao=>by obtain⟨h1,_⟩:=(a6u c).back E[m] ((explore t).2[E[m]])[x] (by grind);exact h1
         have T:((explore t).2[E[m]]).length≤1100000000:=by have:=c4i c _ (B7 F);omega
         simp[aj,ak,al,am,O,F];generalize aC:E[m]=C at R P F S G T;generalize aD:(explore t).2[C]=l at S G T;refine I6 (fun(p:Nat×List Bool×List Nat×Nat) vs h=>p.1≤l.length∧AI t p.2.1 (p.2.2.1.take p.2.2.2) C p.1∧p.2.2.2≤p.2.2.1.length∧p.2.2.1.length≤(j4 t).length∧2*p.2.1.count false+p.2.2.2≤2*A.count false+m∧
          vs=[.uu,.uu,.uu,.uu,.slc ((explore t).2.map FSl),.own 9 1 p.2.1.length 1 0 p.2.1.length,.own 10 1 p.2.2.1.length 1 0 p.2.2.2,.uu,.uu,.uu,.uu,.uu,.uu,.uu,.uu,.uu,.uu,.slc (l.map IN),IN l.length,IN p.1,.uu,.uu]∧
          h=[dd,dd,dd,dd,dd,dd,dd,dd,dd,(1,.arr 1 0 false (p.2.1.map B)),(1,.arr 1 0 false (p.2.2.1.map IN)),dd,dd,dd]) (fun p=>l.length-p.1) (0,A,E,m) ?_ ?_
         . simp;exact⟨R,i9,N⟩
         . rintro⟨j,A',E',a⟩ vs h ⟨r1,r2,r3,r4,r5,rfl,rfl⟩ Q3 H ap aE;dsimp only at r1 r2 r3 r4 r5;have y:=r2.len;by_cases hj:j<l.length
           . have I:=wk1 j i9;have hb:=G j hj;have J:l[j]<A'.length:=i9;have U:((explore t).2.getD C [])[j]?=some l[j]:=(by grind);cases r:A'[l[j]]
             . have u:=r2.push c P U (by grind);have aq:=b0A (A:=A') (i:=l[j]) (by grind);have g:(A'.map B).set l[j] (.bool true)=(A'.set l[j] true).map B:=(by rw[H9]);have V:(a+1)*8≤140737488355328:=i9;have o:(A'.set l[j] true).length=A'.length:=l5;obtain⟨A2,ar⟩:=ex1 (A'.set l[j] true);rw[ar]at g o aq u;have aF:a<(j4 t).length:=by
                have:=u.Z2;simp at this;omega
               by_cases K:a=E'.length
               . obtain⟨E2,D⟩:=ex1 (E'++[l[j]]);have q:E'.map IN++[IN l[j]]=E2.map IN:=(by rw[←D];simp);have d:E'.length+1=E2.length:=(by rw[←D];simp);have L:E'.take a++[l[j]]=E2.take (a+1):=(by grind);rw[L]at u;have au:E2.length*8≤140737488355328:=i9;simp[hj,I,J,r,g,V,au,K,q,d];refine H (j+1,A2,E2,a+1) _ _ i9 ?_;simp[K,o,d]
                 grind
               . have av:a<E'.length:=i9;have hle:a≤E'.length:=i9;obtain⟨E2,D⟩:∃E2,E'.take a++l[j]::E'.drop (a+1)=E2:=⟨_,rfl⟩
                 have q:List.take a (E'.map IN)++IN l[j]::List.drop (a+1) (E'.map IN)=E2.map IN:=(by rw[←D];simp[a1X,a1J]);have d:E2.length=E'.length:=(by grind);have L:E'.take a++[l[j]]=E2.take (a+1):=(by grind);rw[L]at u;simp[hj,I,J,r,g,V,K,av,hle,q,d];refine H (j+1,A2,E2,a+1) _ _ i9 ?_;simp[o,d]
                 grind
             . have u:=r2.skip U (by grind);simp[hj,I,J,r];refine H (j+1,A',E',a) _ _ i9 ?_;simp
               grind
           . obtain rfl:j=l.length:=i9;simp;refine ap _ _ _ ?_;simp;refine ag (A',E',a,C) _ _ (by grind) ?_;simp
             grind
abbrev UB(b:UInt8):PV:=.int .u8 (b.toNat:Int)
@[simp] theorem d2S(l:By):List.map (B4∘UB) l=l.map UB:=K3 fun _ _=>rfl
@[simp] theorem a8T:∀l:By,a1y (l.map UB)=some l
 | []=>rfl
 |b::l=>by have h:=a8T l;simp only[a0N,a1y,h];simp[a7A]
def J8(t:j9)(p:List Nat):By:=p.flatMap fun k=>(t.rules.getD k default).print
def C8(t:j9)(p:List Nat):List Nat:=p.flatMap fun k=>(t.rules.getD k default).cells
theorem b9C(t:j9)(p q:List Nat):J8 t (p++q)=J8 t p++J8 t q:=by simp[J8]
theorem b1c(t:j9)(p q:List Nat):C8 t (p++q)=C8 t p++C8 t q:=by simp[C8]
theorem b5F{t:j9}{s s':State}{k:Nat}(h:step t s k=some s'):∃a:k<t.rules.length,t.rules.getD k default=t.rules[k]:=by have a:=a2s h;exact⟨a,by rw[u9,m7 a];rfl⟩
theorem b2J{t:j9}(a:s8 t):∀p:List Nat,(J8 t p).length≤4*p.length
 | []=>by simp[J8]
 |k::p=>by
  have c:=b2J a p;have:(t.rules.getD k default).print.length≤4:=by
   rw[u9];by_cases b:k<t.rules.length
   . rw[m7 b];exact(a.snd (B7 b)).p4
   . rw[a0d i9];exact D6 _
  simp only[J8,a2Z,a0D,a0a]at*;omega
theorem b9i{t:j9}(a:s8 t):∀p:List Nat,(C8 t p).length≤4*p.length
 | []=>by simp[C8]
 |k::p=>by
  have c:=b9i a p;have:(t.rules.getD k default).cells.length≤4:=by
   rw[u9];by_cases b:k<t.rules.length
   . rw[m7 b];exact(a.snd (B7 b)).c4
   . rw[a0d i9];exact D6 _
  simp only[C8,a2Z,a0D,a0a]at*;omega
abbrev TrP(text:By)(cells:List Nat)(at_:Nat)(s:State)(ok:Bool):PV:=.agg [St text,.uslc (cells.map UN),IN at_,IN s.mode,IN s.last,UN s.need,B ok]
theorem c8X{t:j9}{p:List Nat}{s s':State}(h:F6 t s p=some s')(i:Nat):∃a,F6 t s (p.take i)=some a∧F6 t a (p.drop i)=some s':=by rw[←a9y i p,a5E]at h;obtain⟨a,h1,b⟩:=Y4.1 h;exact⟨a,h1,b⟩
def X43:u7:=
 ⟨45,[0,1,2,3,4,5,6,7,13,20,39],5,[(2,none)],sq [.reg [F5 1 0 0,obj 2],.reg [ofr 46 0 0 0 0 0 0,oee 1 3 0 0 0 0 0,oc 3 1],sq [kk 4 0,.block 0 (.loopS [1,3,4] 5 (sq [sq [ku 4 3 1 8 0 2,B6 8 0],.block 1 (sq [kk 5 0,.block 2 (.loopS [1,3,4,5] 5 (sq [sq [.reg [oa 5,od 2 1,ob 1 1,E0 2,oaz 9 0 3],B6 9 2],.block 3 (sq [.reg [obw 3 1 2,J0 3 2,J0 4 2,obm 3 1 2 2,odf 3 3 2,J0 5 2,ofa 47 0 4 5 0 0 0 0 0 0 0 0 2,⟨.mv (.l 6),none,none,[2]⟩,ocu 7 0 2,ocu 7 1 2,oak 6 2 0 0 0,ok 3 10 8,oc 7 9],.reg [oa 7,os 0,og 3 1,obo 3 6 1,obb 48 2 3 0 0 1,obf 4 0 1,P3 10 1 5],.cond (.v 10) (.reg [oa 3,oh 3 6,oee 3 3 0 0 0 0 1,J3 4 3 24 1 0 2,oc 3 3]) kc]),ki 5 0 1 5 1]))]),ki 4 0 1 4 1]))],kg 3 2 0,ko]⟩
def X44:u7:=
 ⟨73,[0,1,2,3,4,5,6,7,8,9,10,17,29,33,47,68],6,[(2,none)],sq [.reg [F5 1 0 0,obj 2],.reg [oh 3 1,T9 43 0 1 3,ofk 2 1,oc 3 1,oc 4 2],.G7 [(1,true)] (.G5 3 none 0 0 (sq [sq [kk 5 0,.block 0 (.loopS [1,3,4,5] 6 (sq [sq [ku 5 3 1 11 0 2,B6 11 0],.block 1 (.reg [J0 4 3,oh 3 1,oa 3,oa 5,oj 3 2 3,L6 3 4,U2 49 1 5 0 0,oq (.mkarr 3 1 [.bool false] [(0,.l 6)]),J3 4 1 1 1 0 7,oc 4 8]),ki 5 0 1 5 1]))],sq [kz 6,.block 2 (.loopS [1,3,4,6] 6 (sq [sq [.reg [ocf 12 6],B6 12 2],.block 3 (sq [kj 6,kk 7 0,.block 4 (.loopS [1,3,4,6,7] 6 (sq [sq [ku 7 3 1 13 0 2,B6 13 4],.block 5 (sq [kk 8 0,.block 6 (.loopS [1,3,4,6,7,8] 6 (sq [sq [.reg [oa 8,od 2 1,ob 1 1,E0 2,obu 0 3,os 4,og 4 5,og 7 5,oas 1 6 7 5,oe 1 8 5,odg 9 5,P3 14 5 10],B6 14 6],.block 7 (sq [.reg [obw 3 1 5,J0 3 5,J0 7 5,obm 3 1 2 5,odf 3 3 5,J0 8 5,ofa 47 0 4 5 0 0 0 0 0 0 0 0 5,⟨.mv (.l 6),none,none,[5]⟩,ocu 7 0 5,ocu 7 1 5,oak 9 5 0 0 0,ok 3 10 8,oc 10 9],.reg [oa 10,os 0,og 4 1,og 3 1,obo 3 9 1,obb 48 3 4 0 0 1,oas 1 2 5 1,oe 1 6 1,P3 15 1 7],.cond (.v 15) (sq [.reg [oa 4,oa 7,oj 1 0 1,oeh 1 2],kz 6]) kc]),ki 8 0 1 8 1]))]),ki 7 0 1 7 1]))])]))],kg 4 2 0,ko]))]⟩
def X45:u7:=
 ⟨87,[0,1,2,3,4,5,6,7,8,9,10,11,12,20,35,42,56,77],11,[(2,none)],sq [.reg [F5 1 0 0,obj 2],.reg [oh 3 1,T9 43 0 1 3,ofk 2 1,ofk 3 1,oc 3 1,oc 4 2,oc 5 3],.G7 [(1,true)] (.G5 3 none 0 0 (sq [sq [kk 6 0,.block 0 (.loopS [1,3,4,5,6] 11 (sq [sq [ku 6 3 1 13 0 2,B6 13 0],.block 1 (sq [.reg [oa 4,oq (.mkarr 4 1 [.int .i64 0] [(0,oi (-1))]),J3 5 1 8 1 0 1,oc 4 2],.reg [J0 5 6,oh 3 1,oa 3,oa 6,oj 3 2 3,L6 3 4,U2 49 1 5 0 0,oq (.mkarr 6 1 [.bool false] [(0,.l 6)]),J3 7 1 1 1 0 7,oc 5 8]]),ki 6 0 1 6 1]))],sq [kz 7,.block 2 (.loopS [1,3,4,5,7] 11 (sq [sq [.reg [ocf 14 7],B6 14 2],.block 3 (sq [kj 7,.reg [ofk 8 1,oa 5,J3 8 1 1 2 0 1,oc 8 2],sq [kk 9 0,.block 4 (.loopS [1,3,4,5,7,8,9] 11 (sq [sq [ku 9 3 1 15 0 2,B6 15 4],.block 5 (sq [kk 10 0,.block 6 (.loopS [1,3,4,5,7,8,9,10] 11 (sq [sq [.reg [oa 10,od 2 1,ob 1 1,E0 2,obu 0 3,os 4,og 8 5,og 9 5,oas 1 6 7 5,oe 1 8 5,odg 9 5,P3 16 5 10],B6 16 6],.block 7 (sq [.reg [obw 3 1 10,J0 3 10,J0 9 10,obm 3 1 2 10,odf 3 3 10,J0 10 10,ofa 47 0 4 5 0 0 0 0 0 0 0 0 10,⟨.mv (.l 6),none,none,[10]⟩,ocu 7 0 10,ocu 7 1 10,oak 11 10 0 0 0,ok 3 10 8,oc 12 9],.reg [oa 12,os 0,og 5 1,og 3 1,obo 3 11 1,obb 48 3 4 0 0 1,oas 1 2 5 1,oe 1 6 1,P3 17 1 7],.cond (.v 17) (sq [.reg [oa 8,oa 9,oj 1 0 1,oeh 1 2],.reg [oa 4,oa 9,oa 10,oj 1 0 1,ok 1 3 2],kz 7]) kc]),ki 10 0 1 10 1]))]),ki 9 0 1 9 1]))],kg 8 5 0])]))],kg 4 2 0,ko]))]⟩
def X46:u7:=
 ⟨2,[0],1,[(0,some (true,3))],sq [.reg [oak 0 0 0 0 0],.reg [oq (.build [.int .i64 0,.int .i64 0,.int .u8 0] [(2,1,.c (.int .u8 63))]),M1 3 0 0],ko]⟩
def X47:u7:=
 ⟨87,[0,1,2,3,4,6,7,8,17,36,49,54,72],4,[(5,some (true,3)),(6,none)],sq [.reg [F5 3 0 0,F5 4 1 1,oak 5 2 0 0 0,oo 6],sq [.reg [oa 2,ocb 0 0,os 1,L4 2 2,ov 2 3 2,ot 1 4 2,obi 5 2,obq 3 6 2,U0 8 2 7],.cond (.v 8) (kax 0 0 0 3 5 0 6) kc],.reg [od 2 3,ob 1 0,oa 2,oj 6 1 2,L6 6 3,oax 7 3 0 0 0 0,ok 6 5 4],sq [.reg [od 4 7,ob 1 0,od 0 4,ob 1 2,odz 1 3,os 4,ov 2 7 5,ot 1 6 5,ov 1 4 5,ot 1 8 5,oem 85 7 9 0 0 5,ocq 10 5,U0 9 5 11],.cond (.v 9) (kax 0 0 0 3 5 0 6) kc],sq [.reg [od 0 7,ob 1 0,Q8 1,occ 2 0,os 3,om 2 4 4,oe 1 5 4,om 3 7 4,oe 1 7 4,⟨.bin .and false (.l 6) (.l 8),none,some (.l 4,true),[]⟩,odm 9 0 4,P3 10 4 10],.cond (.v 10) (kax 0 0 0 3 5 0 6) kc],sq [.reg [od 0 7,ob 1 0,Q8 1,oed 11 2 0],.cond (.v 11) (sq [.reg [od 5 7,ob 1 0,od 1 4,ob 1 2,od 2 4,ob 1 4,od 3 7,ob 1 6,oq (.bin .and false (.l 5) (.l 7)),oev 0 0 0 0 1 1 1 1 3 2 1 8,M1 3 5 9,oba 6],ko]) kc],sq [.reg [od 2 4,ob 1 0,od 0 7,ob 1 2,oen 3 0,oq (.call 86 [.l 4] [(0,0)] true),oq (.call 85 [.l 1,.l 5] [(0,0)] true),Z3 12 6],.cond (.v 12) (kax 0 0 0 3 5 0 6) kc],.reg [od 5 7,ob 1 0,od 0 7,ob 1 2,od 0 7,ob 1 4,Q8 5,obh 6 1,ofn 3 7,oq (.call 86 [.l 8] [(0,0)] true),od 3 7,ob 1 10,oev 0 0 0 0 1 1 1 1 9 2 1 11,M1 3 5 12,oba 6],ko]⟩
def X48:u7:=
 ⟨19,[0,1,3,4,5,9,17],1,[(3,none)],sq [.reg [F5 2 0 1,ox 3 0],sq [kk 4 0,.block 0 (.loopS [0,2,4] 1 (sq [sq [ku 4 0 1 5 0 2,B6 5 0],.block 1 (sq [.reg [oa 0,oa 4,oj 3 0 1,L6 3 2,oh 3 2,ow 6 (.eqS false [1,1,1] (.l 3) (.l 4))],kba 6 4 3 0]),ki 4 0 1 4 1]))],.reg [odk 3],ko]⟩
def X49:u7:=
 ⟨27,[0,1,2,3,4],2,[(4,none)],sq [.reg [F5 2 0 0,F5 3 1 1,oo 4],.reg [od 0 3,ob 1 0,oea 1 0,os 2,om 0 3 3,oe 1 4 3,om 0 2 3,oe 1 6 3,⟨.bin .lss false (.l 5) (.l 7),none,some (.l 3,true),[]⟩,ol 3 8,os 9,om 1 2 10,oe 1 11 10,om 0 3 10,oe 1 13 10,obb 85 12 14 0 0 10,ol 10 15,os 16,om 2 3 17,oe 1 18 17,⟨.call 85 [.l 19,oi 0] [(0,0)] false,none,some (.l 17,true),[]⟩,ol 17 20,oc 4 21],ko]⟩
def X14:u7:=
 ⟨130,[0,1,2,4,5,6,7,8,9,10,11,12,13,14,15,16,17,18,28,43,51,69,76,111],15,[(3,none),(4,none)],sq [.reg [F5 2 0 0,obj 3,oo 4],.reg [oh 3 2,T9 43 0 1 3,obw 3 2 1,T9 44 2 2 1,⟨.load true 3 (.v 2),none,none,[1,2]⟩,T9 45 4 3 1,oc 5 1,oc 6 3,oc 7 5],.G7 [(1,true),(2,true),(3,true)] (.G5 5 none 0 0 (.G5 6 none 0 0 (.G5 7 none 0 0 (sq [sq [.reg [oa 6,ock 1 0 0,ob 1 1,Z3 18 2],.cond (.v 18) (sq [.reg [ofk 4 1,oc 3 0,oo 4],ko]) kc],.reg [ofk 5 1,ofr 46 0 0 0 0 0 0,oak 9 6 0 0 0,oc 8 0,ok 3 2 1,ox 10 0],sq [kk 11 0,.block 0 (.loopS [1,2,5,6,7,8,9,10,11] 15 (sq [sq [.reg [oa 11,oa 1,E0 1,obu 0 2,os 3,og 11 4,obf 5 10 4,ol 4 6,os 7,og 10 8,⟨.bin .leq false (.l 9) (oi 10),none,some (.l 8,true),[]⟩,P3 19 8 10],B6 19 0],.block 1 (sq [.reg [ofk 7 1,oc 12 0],sq [kk 13 0,.block 2 (.loopS [1,2,5,6,7,8,9,10,11,12,13] 15 (sq [sq [.reg [oa 13,od 2 2,ob 1 1,E0 2,oaz 20 0 3],B6 20 2],.block 3 (sq [.reg [oh 3 2,oh 3 9,oa 13,odd 47 0 1 2 0 0 0 0 0 0 0 0,os 3,oy 4 0,oy 4 1,oak 14 8 0 0 0,ok 3 7 5,oc 15 6],.reg [oa 15,os 0,og 6 1,og 5 1,obo 3 14 1,obb 48 3 4 0 0 1,oas 1 2 5 1,oe 1 6 1,P3 21 1 7],.cond (.v 21) (.reg [oa 12,oa 13,ocx 9 1 0 0 1,J3 10 1 8 1 0 2,oc 12 3]) kc]),ki 13 0 1 13 1]))],sq [.reg [oa 12,E0 0,oed 22 1 0],kav 22 0],.reg [oa 12,oa 1,oa 11,oj 1 1 2,ob 1 3,oew 4,oa 12,E0 6,ofx 5 7,oj 1 0 8,ob 1 9,oc 16 10],.reg [oa 8,oa 16,ocx 11 1 0 0 1,J3 12 1 8 1 0 2,oc 8 3],.reg [oa 10,od 2 2,ob 1 1,oa 16,oj 6 2 3,ou 0 4,ob 1 5,Q8 6,X2 0 7,oc 10 8],.reg [oh 3 2,oh 3 9,oa 16,odd 47 0 1 2 0 0 0 0 0 0 0 0,os 3,oy 4 0,oy 4 1,M1 3 9 5]]),ki 11 0 1 11 1]))],.block 4 (.loopS [2,5,7,8,9] 15 (sq [sq [.reg [oh 3 2,oh 3 9,U2 49 0 1 0 0,Z3 23 2],B6 23 4],.block 5 (sq [.reg [oa 7,oa 5,oh 3 9,U2 48 1 2 0 0,oj 1 0 3,ob 1 4,oc 17 5],.reg [oa 8,oa 17,ocx 13 1 0 0 1,J3 14 1 8 1 0 2,oc 8 3],.reg [oh 3 2,oh 3 9,oa 17,odd 47 0 1 2 0 0 0 0 0 0 0 0,os 3,oy 4 0,oy 4 1,M1 3 9 5]])])),.reg [oa 8,oc 3 0,oba 4],ko]))))]⟩
def X34:u7:=
 ⟨69,[0,1,2,4,5,6,7,8,14,29],5,[(3,some (true,7))],sq [.reg [F5 2 0 0,ocy 3 1 0 0 0 0],.reg [ofr 46 0 0 0 0 0 0,oq (.build [.str ⟨#[]⟩,.nils,.int .i64 0,.int .i64 0,.int .i64 0,.int .u8 0,.bool false] [(3,3,.l 0)]),ocy 4 2 0 0 0 0,ok 7 2 1],.G5 4 (some 1) 4 1 (sq [sq [kk 5 0,.block 0 (.loopS [1,2,3,4,5] 5 (sq [sq [ku 5 1 1 8 0 2,B6 8 0],.block 1 (sq [.reg [obw 3 2 3,obl 3 4 3,odf 3 1 3,J0 1 3,J0 5 3,obm 1 3 4 3,P6 1 5 3,ofa 47 0 2 6 0 0 0 0 0 0 0 0 3,⟨.mv (.l 7),none,none,[3]⟩,ocu 8 0 3,ocu 8 1 3,oak 6 3 0 0 0,ok 3 11 9,oc 7 10],sq [kak 7 9 0,.cond (.v 9) (sq [kam 7 4 7 3 0,ko]) kc],.reg [od 0 4,ob 1 0,od 2 2,ob 1 2,oa 1,oa 5,oj 1 4 5,ob 1 6,oj 6 3 7,ou 0 8,ob 1 9,X2 1 10,od 0 4,ok 1 12 11],.reg [od 1 4,ob 1 0,od 2 2,ob 1 2,oa 1,oa 5,oj 1 4 5,ob 1 6,oj 6 3 7,ou 1 8,ob 1 9,J3 4 1 1 0 1 10,od 1 4,ok 1 12 11],.reg [oh 3 6,od 3 4,ok 3 1 0],.reg [od 2 4,ob 1 0,oae 1 1,od 2 4,ok 1 3 2]]),ki 5 0 1 5 1]))],.reg [oh 3 2,od 3 4,L6 3 1,U2 49 0 2 0 0,od 6 4,ok 1 4 3],kam 7 4 7 3 0,ko])]⟩
def X10:u7:=
 ⟨19,[0,1,2,4,5,6,7],3,[(3,none),(4,none)],sq [.reg [F5 2 0 0,ow 3 (.mv (.c (.str ⟨#[]⟩))),oo 4],.reg [oh 3 2,oa 1,oct 14 0 1 1 1 0 0,os 2,oy 3 0,oy 3 1,oc 5 4,oc 6 5],.reg [oh 3 2,oa 5,oq (.call 34 [.l 0,.l 1] [(0,0),(2,1),(0,0),(0,0),(0,0),(0,0),(0,0)] false),oq (.field false 0 1 (.l 2)),oa 6,oc 3 3,oc 4 4],ko]⟩
def X85:u7:=
 ⟨18,[0,1,4],0,[(2,none)],sq [kj 2,.reg [oa 1,oea 0 0,os 1,og 1 2,obf 3 8 2,ol 2 4,os 5,og 0 6,og 1 6,⟨.bin .shr false (.l 7) (.l 8),none,some (.l 6,true),[]⟩,oet 9 1 6,odm 10 1 6,ol 6 11,oc 2 12],ko]⟩
theorem c43:C4 43 X43:=C6
theorem c44:C4 44 X44:=C6
theorem c45:C4 45 X45:=C6
theorem c46:C4 46 X46:=C6
theorem c47:C4 47 X47:=C6
theorem c48:C4 48 X48:=C6
theorem c49:C4 49 X49:=C6
theorem c14:C4 14 X14:=C6
theorem c34:C4 34 X34:=C6
theorem c10:C4 10 X10:=C6
theorem c85:C4 85 X85:=C6
def X28:u7:=
 ⟨121,[0,2,3,4,5,6,7,8,9,16,17,35,50,64,72,90,105],42,[(1,some (true,3))],sq [.reg [ocd 1 0 0 0],.reg [oq (.call 64 [] [(1,6)] false),ofs 0 0 0 1 0 1 1 0,ofs 0 0 0 1 0 1 1 1,ofs 0 0 0 1 1 1 1 1,ofs 0 0 0 1 1 1 1 0,oer 3 2 0 0,oer 4 3 0 0,oer 5 4 0 0,oer 6 5 0 0,oc 2 0,oq (.storeA 2 (.l 5) (.l 1)),oq (.storeA 2 (.l 6) (.l 2)),oq (.storeA 2 (.l 7) (.l 3)),oq (.storeA 2 (.l 8) (.l 4))],sq [.reg [oa 0,ow 9 (.bin .rem false (.l 0) (.c (.int .u8 8)))],.block 0 (sq [.reg [ocn 9 1,oc 10 0],.cond (.v 10) (sq [.reg [⟨.mv (.v 2),none,none,[6,7,8,9,10]⟩,ofd 2 4,oq (.call 65 [.c (.int .u8 60),oi 3,.l 1] [(0,0),(6,1),(0,0),(0,0),(0,0),(0,0)] false),odq 1 0 0 1 6,ofe 2 5 6,oq (.call 66 [.c (.str ⟨#[49]⟩),.l 3,.l 4] [(0,0),(7,1),(0,0),(0,0),(0,0),(0,0)] false),odw 1 0 0 3 6 7,oei 2 5 6 7,oq (.call 66 [.c (.str ⟨#[50]⟩),.l 6,.l 7] [(0,0),(8,1),(0,0),(0,0),(0,0),(0,0)] false),⟨.lit 1 [.int .u8 0] [(0,.c (.int .u8 0))],none,none,[6,7,8]⟩,⟨.loadA 2 (.v 6),none,none,[6,7,8]⟩,oq (.call 66 [.c (.str ⟨#[32]⟩),.l 9,.l 10] [(0,0),(9,1),(0,0),(0,0),(0,0),(0,0)] false),off 10 6 0 0 0 0 0 0 0 0 0 0 0 0 0 0 0 0 0 2 1 5 2 8 3 11,J3 11 6 64 1 0 12,oc 2 13],.G7 [(1,true)] (.reg [oa 2,oeb 0 0 0 1 2 1 1 3 2 1 0,M1 3 1 1]),ko]) (sq [.reg [ocn 9 2,oc 11 0],.cond (.v 11) (sq [.reg [⟨.mv (.v 2),none,none,[12,13,14,15]⟩,ofd 2 4,oq (.call 65 [.c (.int .u8 32),oi 2,.l 1] [(0,0),(12,1),(0,0),(0,0),(0,0),(0,0)] false),odq 1 0 0 1 12,ofe 2 6 12,oq (.call 66 [.c (.str ⟨#[65]⟩),.l 3,.l 4] [(0,0),(13,1),(0,0),(0,0),(0,0),(0,0)] false),odw 1 0 0 3 12 13,oei 2 6 12 13,oq (.call 66 [.c (.str ⟨#[66]⟩),.l 6,.l 7] [(0,0),(14,1),(0,0),(0,0),(0,0),(0,0)] false),oaw 15 6 0 0 0 0 0 0 0 0 0 0 0 0 0 2 1 5 2 8,J3 16 6 64 1 0 9,oc 2 10],.G7 [(1,true)] (.reg [oa 2,oeb 0 0 0 1 2 1 1 1 2 1 0,M1 3 1 1]),ko]) (sq [.reg [ocn 9 3,oc 12 0],.cond (.v 12) (.reg [⟨.mv (.v 2),none,none,[17,18,19,20]⟩,oq (.lit 1 [.int .u8 0] [(0,.c (.int .u8 7))]),ofd 2 3,oq (.call 66 [.c (.str ⟨#[97,98]⟩),.l 1,.l 2] [(0,0),(17,1),(0,0),(0,0),(0,0),(0,0)] false),odq 1 0 0 15 17,ofe 2 3 17,oq (.call 66 [.c (.str ⟨#[97,98,99]⟩),.l 4,.l 5] [(0,0),(18,1),(0,0),(0,0),(0,0),(0,0)] false),⟨.lit 1 [.int .u8 0,.int .u8 0] [(0,.c (.int .u8 4)),(1,.c (.int .u8 4))],none,none,[17,18]⟩,oei 2 3 17 18,oq (.call 66 [.c (.str ⟨#[99,97]⟩),.l 7,.l 8] [(0,0),(19,1),(0,0),(0,0),(0,0),(0,0)] false),oaw 20 6 0 0 0 0 0 0 0 0 0 0 0 0 0 3 1 6 2 9,J3 21 6 64 1 0 10,oc 2 11]) (sq [.reg [ocn 9 4,oc 13 0],.cond (.v 13) (.reg [oa 2,oq (.lit 1 [.int .u8 0,.int .u8 0] [(0,.c (.int .u8 1)),(1,.c (.int .u8 3))]),ofd 2 3,oq (.call 66 [.c (.str ⟨#[45]⟩),.l 1,.l 2] [(0,0),(22,1),(0,0),(0,0),(0,0),(0,0)] false),oes 23 6 0 0 0 0 0 3,J3 24 6 64 1 0 4,oc 2 5]) (sq [.reg [ocn 9 5,oc 14 0],.cond (.v 14) (sq [.reg [odw 1 0 0 44 27 28,oei 2 3 27 28,⟨.call 66 [.c (.str ⟨#[98]⟩),.l 0,.l 1] [(0,0),(25,1),(0,0),(0,0),(0,0),(0,0)] false,none,none,[27,28]⟩,⟨.lit 1 [.int .u8 0] [(0,.c (.int .u8 44))],none,none,[25,27,28]⟩,⟨.loadA 2 (.v 3),none,none,[25,27,28]⟩,⟨.call 66 [.c (.str ⟨#[99,97,98]⟩),.l 3,.l 4] [(0,0),(26,1),(0,0),(0,0),(0,0),(0,0)] false,none,none,[27,28]⟩,⟨.alloc 27 [.str ⟨#[]⟩,.nils,.int .u8 0,.int .u8 0,.int .i64 0,.int .i64 0],some 7,none,[25,26,28]⟩,⟨.alloc 28 [.str ⟨#[]⟩,.nils,.int .u8 0,.int .u8 0,.int .i64 0,.int .i64 0],some 8,none,[25,26,27]⟩,ok 6 6 2,ok 6 7 5],.reg [od 2 7,oq (.store 1 (.l 0) (.c (.int .u8 17))),od 2 8,oq (.store 1 (.l 2) (.c (.int .u8 2)))],.reg [obr 2 29 30,obw 6 7 29,obw 6 8 29,oq (.lit 1 [.int .u8 0] [(0,.c (.int .u8 36))]),ofd 2 3,oq (.call 66 [.c (.str ⟨#[45]⟩),.l 3,.l 4] [(0,0),(29,1),(0,0),(0,0),(0,0),(0,0)] false),oaw 30 6 0 0 0 0 0 0 0 0 0 0 0 0 0 1 1 2 2 5,J3 31 6 64 1 0 6,oc 2 7]]) (sq [.reg [ocn 9 6,oc 15 0],.cond (.v 15) (sq [.reg [⟨.mv (.v 2),none,none,[32,33,34,35]⟩,ofd 2 4,oq (.call 65 [.c (.int .u8 40),oi 1,.l 1] [(0,0),(32,1),(0,0),(0,0),(0,0),(0,0)] false),odq 1 0 0 1 32,ofe 2 6 32,oq (.call 66 [.c (.str ⟨#[225]⟩),.l 3,.l 4] [(0,0),(33,1),(0,0),(0,0),(0,0),(0,0)] false),odw 1 0 0 3 32 33,oei 2 6 32 33,oq (.call 66 [.c (.str ⟨#[226]⟩),.l 6,.l 7] [(0,0),(34,1),(0,0),(0,0),(0,0),(0,0)] false),oaw 35 6 0 0 0 0 0 0 0 0 0 0 0 0 0 2 1 5 2 8,J3 36 6 64 1 0 9,oc 2 10],.G7 [(1,true)] (.reg [oa 2,oeb 0 0 0 1 2 1 1 1 2 1 0,M1 3 1 1]),ko]) (sq [.reg [ocn 9 7,oc 16 0],.cond (.v 16) (.reg [⟨.mv (.v 2),none,none,[37,38,39,40]⟩,oq (.lit 1 [.int .u8 0,.int .u8 0] [(0,.c (.int .u8 1)),(1,.c (.int .u8 5))]),ofd 2 3,oq (.call 66 [.c (.str ⟨#[45]⟩),.l 1,.l 2] [(0,0),(37,1),(0,0),(0,0),(0,0),(0,0)] false),⟨.lit 1 [.int .u8 0,.int .u8 0] [(0,.c (.int .u8 5)),(1,.c (.int .u8 5))],none,none,[37]⟩,ofe 2 3 37,oq (.call 66 [.c (.str ⟨#[49]⟩),.l 4,.l 5] [(0,0),(38,1),(0,0),(0,0),(0,0),(0,0)] false),⟨.lit 1 [.int .u8 0,.int .u8 0] [(0,.c (.int .u8 5)),(1,.c (.int .u8 9))],none,none,[37,38]⟩,oei 2 3 37 38,oq (.call 66 [.c (.str ⟨#[50]⟩),.l 7,.l 8] [(0,0),(39,1),(0,0),(0,0),(0,0),(0,0)] false),oaw 40 6 0 0 0 0 0 0 0 0 0 0 0 0 0 3 1 6 2 9,J3 41 6 64 1 0 10,oc 2 11]) kc])])])])])])])],.G7 [(1,true)] (.reg [oa 2,oeb 0 0 0 1 1 1 1 1 2 1 0,M1 3 1 1]),ko]⟩
def X8:u7:=
 ⟨77,[0,1,2,3,4,5,6,17,25,43,61,73],10,[(2,some (true,3))],sq [.reg [F5 1 0 0,ocd 2 1 0 0],.reg [od 0 1,ob 1 0,oq (.call 28 [.l 1] [(0,0),(0,0),(2,6)] false),ocd 3 3 0 0,ok 3 3 2],.reg [od 2 3,ob 1 0,oc 4 1],.reg [ofk 4 6,od 2 3,ok 1 1 0],sq [kk 5 0,.block 0 (.loopS [1,2,3,4,5] 10 (sq [sq [ku 5 4 1 7 0 2,B6 7 0],.block 1 (sq [.reg [od 1 1,ob 1 0,oa 5,oq (.bin .shr false (.l 1) (.l 2)),ocm 3 1,oeu 8 4 0],.cond (.v 8) (.reg [obl 2 3 5,P6 1 0 5,oa 4,oa 5,oj 6 2 3,L6 6 4,oes 5 6 0 0 0 0 0 5,J3 6 6 64 1 1 6,od 2 3,ok 1 8 7]) kc]),ki 5 0 1 5 1]))],sq [kk 6 0,.block 2 (.loopS [1,2,3,4,6] 10 (sq [sq [.reg [oa 6,od 2 1,ob 1 1,E0 2,obu 0 3,os 4,og 6 5,obf 6 2 5,P3 9 5 7],B6 9 2],.block 3 (sq [.reg [ofq 2 3 7 8,ode 1 0 7 8,od 2 1,ob 1 2,oa 6,oj 6 3 4,L6 6 5,od 0 3,ob 1 7,oq (.call 32 [.l 6,.l 8] [(0,0),(7,1),(0,0),(0,0),(0,0),(0,0)] false),oes 8 6 0 0 0 0 0 9,J3 9 6 64 1 1 10,od 2 3,ok 1 12 11],.reg [oh 3 3,T9 33 0 0 0,Z3 10 1],.cond (.v 10) (.reg [od 2 3,ob 1 0,od 2 3,ob 1 2,E0 3,obh 4 1,ocw 6 1 5,od 2 3,ok 1 7 6]) kc]),ki 6 0 1 6 1]))],sq [.reg [od 2 3,ob 1 0,E0 1,oed 11 2 0],.cond (.v 11) (.reg [oa 4,od 2 3,ok 1 1 0]) kc],kam 3 3 3 2 0,ko]⟩
def X32:u7:=
 ⟨101,[0,1,2,4,5,6,7,8,9,10,11,46,83],8,[(3,some (true,6))],sq [.reg [F5 2 0 0,oax 3 1 0 0 0 0],.reg [oq (.mkarr 2 1 [.int .u8 0,.int .u8 0,.int .u8 0,.int .u8 0,.int .u8 0,.int .u8 0,.int .u8 0,.int .u8 0] [(0,.c (.int .u8 63)),(1,.c (.int .u8 63)),(2,.c (.int .u8 2)),(3,.c (.int .u8 8)),(4,.c (.int .u8 17)),(5,.c (.int .u8 62)),(6,.c (.int .u8 4)),(7,.c (.int .u8 1))]),ow 4 (.mv (.c (.str ⟨#[97,98,99,65,66,49,50,45,46]⟩))),oc 5 0],.reg [J0 5 3,obl 2 2 3,P6 1 1 3,⟨.bin .rem false (.l 2) (.c (.int .u8 8)),none,none,[3]⟩,obm 1 0 3 3,P6 1 4 3,J0 5 3,obl 3 2 3,P6 1 7 3,⟨.bin .rem false (.l 8) (.c (.int .u8 8)),none,none,[3]⟩,obm 1 6 9 3,P6 1 10 3,obl 4 2 3,⟨.indexAddrA 2 1 (.l 12) (oi 0),none,none,[3]⟩,P6 1 13 3,⟨.conv .i64 (.l 14),none,none,[3]⟩,J0 1 3,⟨.bin .rem false (.l 15) (.l 16),none,none,[3]⟩,obl 4 2 3,⟨.indexAddrA 2 1 (.l 18) (oi 1),none,none,[3]⟩,P6 1 19 3,⟨.conv .i64 (.l 20),none,none,[3]⟩,J0 1 3,⟨.bin .rem false (.l 21) (.l 22),none,none,[3]⟩,⟨.build [.str ⟨#[]⟩,.nils,.int .u8 0,.int .u8 0,.int .i64 0,.int .i64 0] [(2,1,.l 5),(3,1,.l 11),(4,1,.l 17),(5,1,.l 23)],none,none,[3]⟩,oax 6 3 0 0 0 0,ok 6 25 24],sq [kk 7 0,.block 0 (.loopS [2,3,4,6,7] 8 (sq [sq [.reg [oa 7,od 0 2,ob 1 1,E0 2,obu 0 3,os 4,og 7 5,obf 6 3 5,P3 11 5 7],B6 11 0],.block 1 (sq [.reg [od 0 2,ob 1 0,oa 7,oj 1 1 2,ob 1 3,oq (.bin .rem false (.l 4) (.c (.int .u8 9))),oew 5,oc 8 6],.reg [od 0 6,ob 1 0,oa 4,oa 8,oa 8,oae 4 1,oq (.slice true 0 (.l 2) (some (.l 3)) (some (.l 5)) none),X2 1 6,od 0 6,ok 1 8 7]]),ki 7 0 1 7 1]))],.reg [oq (.mkarr 4 1 [.int .u8 0,.int .u8 0,.int .u8 0,.int .u8 0,.int .u8 0,.int .u8 0,.int .u8 0,.int .u8 0] [(0,.c (.int .u8 1)),(1,.c (.int .u8 3)),(2,.c (.int .u8 9)),(3,.c (.int .u8 5)),(4,.c (.int .u8 7)),(5,.c (.int .u8 32)),(6,.c (.int .u8 44)),(7,.c (.int .u8 60))]),oc 9 0],.reg [oa 9,od 2 2,ob 1 1,oq (.bin .quo false (.l 2) (.c (.int .u8 8))),oq (.bin .rem false (.l 3) (.c (.int .u8 8))),oj 1 0 4,ob 1 5,ofw 5 1 0 0 6,od 1 6,ok 1 8 7],sq [kk 10 0,.block 2 (.loopS [2,3,6,9,10] 8 (sq [sq [.reg [oa 10,od 1 2,ob 1 1,E0 2,obu 0 3,os 4,og 10 5,obf 6 2 5,P3 12 5 7],B6 12 2],.block 3 (.reg [obl 1 6 6,P6 1 0 6,oa 9,od 1 2,ob 1 3,oa 10,oj 1 4 5,ob 1 6,oq (.bin .rem false (.l 7) (.c (.int .u8 8))),oj 1 2 8,ob 1 9,ofw 6 1 0 0 10,J3 7 1 1 1 1 11,od 1 6,ok 1 13 12]),ki 10 0 1 10 1]))],kam 6 6 6 3 0,ko]⟩
def X33:u7:=
 ⟨12,[0,1,2,4],1,[(2,none)],sq [kab 1 0 0 2,.reg [oh 3 1,ocr 68 0 0 0 0 0,os 1,oy 2 0,oy 2 1,os 3,oc 3 4],.reg [oa 3,occ 0 0,oc 2 1],ko]⟩
def X68:u7:=
 ⟨74,[0,1,2,3,4,5,39,44,55,59,72],1,[(2,none),(3,none)],sq [.reg [F5 1 0 0,ox 2 0,ox 3 0],sq [.reg [od 0 1,ob 1 0,ocb 1 1,os 2,ov 0 1 3,ot 1 4 3,obz 5 8 3,P5 3 6,os 7,ov 1 1 8,ot 1 9 8,odj 10 0 8,P5 8 11,os 12,ov 1 1 13,ot 1 14 13,⟨.conv .i64 (.l 15),none,some (.l 13,false),[]⟩,ov 0 1 13,ot 1 17 13,⟨.bin .shl false (oi 1) (.l 18),none,some (.l 13,false),[]⟩,obq 16 19 13,P5 13 20,os 21,ov 2 1 22,ot 1 23 22,obi 24 22,obt 25 1 22,P5 22 26,os 27,ov 2 1 28,ot 1 29 28,obi 30 28,obz 31 64 28,U0 6 28 32],kbc 6 2 3 1],sq [kk 4 0,.block 0 (.loopS [1,4] 1 (sq [sq [.reg [oa 4,od 2 1,ob 1 1,E0 2,oaz 7 0 3],B6 7 0],.block 1 (sq [sq [.reg [od 2 1,ob 1 0,oa 4,oj 6 1 2,L6 6 3,od 0 1,ob 1 5,U2 101 4 6 0 0,Z3 8 7],.cond (.v 8) (kbf 4 2 0 3 20) kc],kk 5 0,.block 2 (.loopS [1,4,5] 1 (sq [sq [.reg [oa 5,oa 4,oaz 9 0 1],B6 9 2],.block 3 (sq [.reg [od 2 1,ob 1 0,oa 5,oj 6 1 2,L6 6 3,od 2 1,ob 1 5,oa 4,oj 6 6 7,L6 6 8,ow 10 (.call 102 [.l 4,.l 9] [(0,0)] false)],.cond (.v 10) (kbf 4 2 0 3 20) kc]),ki 5 0 1 5 1]))]),ki 4 0 1 4 1]))],.reg [ox 2 0,ox 3 0],ko]⟩
def V5:u7:=
 ⟨125,[0,1,2,4,5,6,7,8,30,70,75,90,98,109],1,[(3,none)],sq [kab 2 0 0 3,sq [.reg [od 0 2,ob 1 0,T9 119 1 0 0,ofl 2,os 3,ov 0 2 4,ot 1 5 4,⟨.len true (.l 6),none,some (.l 4,false),[]⟩,obz 7 4 4,P5 4 8,os 9,ov 1 2 10,ot 1 11 10,obi 12 10,obt 13 1 10,P5 10 14,os 15,ov 1 2 16,ot 1 17 16,obi 18 16,obz 19 4 16,U0 8 16 20],.cond (.v 8) (U4 3) kc],sq [.reg [od 2 2,ob 1 0,oq (.bin .lss false (.l 1) (.c (.int .u8 1))),os 2,ov 2 2 3,ot 1 4 3,odi 5 63 3,P5 3 6,os 7,ov 3 2 8,ot 1 9 8,⟨.bin .lss false (.l 10) (.c (.int .u8 1)),none,some (.l 8,false),[]⟩,P5 8 11,os 12,ov 3 2 13,ot 1 14 13,odi 15 63 13,P5 13 16,os 17,ov 4 2 18,ot 1 19 18,obt 20 0 18,P5 18 21,os 22,ov 4 2 23,ot 1 24 23,L4 1 23,obq 25 26 23,P5 23 27,os 28,ov 5 2 29,ot 1 30 29,obt 31 0 29,P5 29 32,os 33,ov 5 2 34,ot 1 35 34,L4 1 34,obq 36 37 34,U0 9 34 38],.cond (.v 9) (U4 3) kc],.reg [oo 4,oo 5],sq [kk 6 0,.block 0 (.loopS [2,4,5,6] 1 (sq [sq [.reg [oa 6,od 0 2,ob 1 1,Q8 2,oaz 10 0 3],B6 10 0],.block 1 (.reg [oa 4,os 0,ov 0 2 1,ot 1 2 1,L4 6 1,⟨.indexS (.l 3) (.l 4),none,some (.l 1,false),[]⟩,ocz 120 5 0 0 1,P5 1 6,oc 4 7]),ki 6 0 1 6 1]))],sq [kk 7 0,.block 2 (.loopS [2,4,5,7] 1 (sq [sq [.reg [oa 7,od 1 2,ob 1 1,E0 2,oaz 11 0 3],B6 11 2],.block 3 (sq [sq [.reg [od 1 2,ob 1 0,oa 7,oj 1 1 2,ob 1 3,ow 12 (.bin .geq false (.l 4) (.c (.int .u8 63)))],.cond (.v 12) (U4 3) kc],.reg [oa 5,os 0,ov 1 2 1,ot 1 2 1,L4 7 1,oci 1 3 4 1,ot 1 5 1,odj 6 0 1,P5 1 7,oc 5 8]]),ki 7 0 1 7 1]))],sq [kak 4 13 0,.cond (.v 13) (sq [.reg [oa 5,ofl 0,oc 3 1],ko]) kc],.reg [od 0 2,ob 1 0,Q8 1,occ 2 1,os 3,om 1 2 4,oe 1 5 4,obn 6 4,obs 7 1 4,ol 4 8,os 9,og 5 10,ol 10 11,oc 3 12],ko]⟩
def a2A:u7:=
 ⟨45,[0,1,2,3,4],2,[(4,none)],sq [.reg [F5 2 0 0,F5 3 1 1,oo 4],.reg [od 0 2,ob 1 0,od 0 3,ob 1 2,ocj 1 3,os 4,om 1 2 5,oe 1 6 5,om 1 3 5,oe 1 8 5,obb 29 7 9 0 0 5,ol 5 10,os 11,om 2 2 12,oe 1 13 12,om 2 3 12,oe 1 15 12,oat 14 16 12,ol 12 17,os 18,om 3 2 19,oe 1 20 19,om 3 3 19,oe 1 22 19,oat 21 23 19,ol 19 24,os 25,om 4 2 26,oe 1 27 26,om 4 3 26,oe 1 29 26,oat 28 30 26,ol 26 31,os 32,om 5 2 33,oe 1 34 33,om 5 3 33,oe 1 36 33,oat 35 37 33,ol 33 38,oc 4 39],ko]⟩
def X29:u7:=
 ⟨26,[0,1,4,5,10,14,25],0,[(2,none)],sq [kj 2,sq [.reg [oa 0,E0 0,oa 1,E0 2,obx 4 1 3],.cond (.v 4) (U4 2) kc],sq [kk 3 0,.block 0 (.loopS [0,1,3] 0 (sq [sq [ku 3 0 1 5 0 2,B6 5 0],.block 1 (sq [.reg [oa 0,oa 3,oj 1 0 1,ob 1 2,oa 1,oa 3,oj 1 4 5,ob 1 6,obx 6 3 7],.cond (.v 6) (U4 2) kc]),ki 3 0 1 3 1]))],kz 2,ko]⟩
def b0V:u7:=
 ⟨12,[0,2,4],0,[(1,none)],sq [kj 1,.reg [oa 0,ocr 24 0 0 0 0 0,os 1,oy 2 0,oy 2 1,os 3,oc 2 4],.reg [oa 2,occ 0 0,oc 1 1],ko]⟩
def X24:u7:=
 ⟨19,[0,2,3,4,8,15],0,[(1,none),(2,none)],sq [.reg [ox 1 0,ox 2 0],sq [kk 3 0,.block 0 (.loopS [0,3] 0 (sq [sq [.reg [oa 3,oa 0,Q8 1,oaz 4 0 2],B6 4 0],.block 1 (sq [.reg [oa 0,oa 3,ofn 0 1,T9 62 2 0 0,Z3 5 3],.cond (.v 5) (kbf 3 1 0 2 60) kc]),ki 3 0 1 3 1]))],.reg [oa 0,Q8 0,oc 1 1,ox 2 0],ko]⟩
def X62:u7:=
 ⟨11,[0,2],0,[(1,none)],sq [kj 1,.reg [oa 0,ocm 0 127,oeo 1 32,os 2,og 0 3,oet 4 127 3,obp 5 126 3,ol 3 6,oc 1 7],ko]⟩
def a9K:u7:=
 ⟨6,[0,2],0,[(1,none)],sq [kj 1,.reg [oa 0,ocm 0 127,oq (.bin .eql false (.l 1) (.c (.int .u8 32))),oc 1 2],ko]⟩
def X64:u7:=
 ⟨16,[0,1],6,[(0,none)],sq [kad 0,.reg [oq (.build [.int .i64 0,.int .i64 0] []),oer 1 0 0 0,oq (.storeA 2 (.l 1) (.l 0))],.reg [oq (.lit 1 [.int .u8 0] [(0,.c (.int .u8 1))]),ofd 2 1,oq (.call 66 [.c (.str ⟨#[97]⟩),.l 0,.l 1] [(0,0),(1,1),(0,0),(0,0),(0,0),(0,0)] false),odq 1 0 0 3 1,ofe 2 1 1,oq (.call 66 [.c (.str ⟨#[98]⟩),.l 3,.l 4] [(0,0),(2,1),(0,0),(0,0),(0,0),(0,0)] false),odw 1 0 0 9 1 2,oei 2 1 1 2,oq (.call 66 [.c (.str ⟨#[99]⟩),.l 6,.l 7] [(0,0),(3,1),(0,0),(0,0),(0,0),(0,0)] false),⟨.lit 1 [.int .u8 0] [(0,.c (.int .u8 0))],none,none,[1,2,3]⟩,⟨.loadA 2 (.v 1),none,none,[1,2,3]⟩,oq (.call 66 [.c (.str ⟨#[32]⟩),.l 9,.l 10] [(0,0),(4,1),(0,0),(0,0),(0,0),(0,0)] false),off 5 6 0 0 0 0 0 0 0 0 0 0 0 0 0 0 0 0 0 2 1 5 2 8 3 11,oc 0 12],ko]⟩
def X65:u7:=
 ⟨16,[0,1,2,5,6,7],4,[(4,some (true,6))],sq [.reg [ow 3 (.boxA 0 (.v 2)),oax 4 1 0 0 0 0],.reg [oa 0,oq (.lit 1 [.int .u8 0] [(0,.l 0)]),ofd 2 3,oq (.call 66 [.c (.str ⟨#[]⟩),.l 1,.l 2] [(0,0),(2,1),(0,0),(0,0),(0,0),(0,0)] false),oax 5 3 0 0 0 0,ok 6 4 3],.reg [oa 1,oq (.bin .shl false (.c (.int .u8 1)) (.l 0)),od 3 5,ok 1 2 1],kam 6 5 6 4 0,ko]⟩
def X66:u7:=
 ⟨14,[0,1,2,5,6],2,[(4,some (true,6))],sq [.reg [ow 3 (.boxA 0 (.v 2)),oax 4 1 0 0 0 0],.reg [oa 0,oa 1,oq (.indexAddrA 2 1 (.v 3) (oi 0)),ob 1 2,oq (.indexAddrA 2 1 (.v 3) (oi 1)),ob 1 4,oq (.build [.str ⟨#[]⟩,.nils,.int .u8 0,.int .u8 0,.int .i64 0,.int .i64 0] [(0,1,.l 0),(1,1,.l 1),(2,1,.c (.int .u8 63)),(3,1,.c (.int .u8 63)),(4,1,.l 3),(5,1,.l 5)]),M1 6 4 6],ko]⟩
def X27:u7:=
 ⟨2,[0],2,[(0,some (true,3))],sq [.reg [ocd 0 0 0 0],.reg [oq (.call 28 [.c (.int .u8 0)] [(0,0),(0,0),(1,6)] false),M1 3 0 0],ko]⟩
def X86:u7:=
 ⟨26,[0,2,3,11,17,23,25],0,[(1,none)],sq [kk 1 0,.reg [oa 0,ocm 0 127,oc 2 1],sq [.reg [oa 2,oeo 0 97,os 1,og 2 2,obp 3 122 2,P3 3 2 4],kbe 3 1 1],sq [.reg [oa 2,oeo 0 65,os 1,og 2 2,obp 3 90 2,P3 4 2 4],kbe 4 1 2],sq [.reg [oa 2,oeo 0 48,os 1,og 2 2,obp 3 57 2,P3 5 2 4],kbe 5 1 3],sq [.reg [oa 2,oeu 6 0 32],kbe 6 1 4],kk 1 5,ko]⟩
theorem c28:C4 28 X28:=C6
theorem c8:C4 8 X8:=C6
theorem c32:C4 32 X32:=C6
theorem c33:C4 33 X33:=C6
theorem c68:C4 68 X68:=C6
theorem c101:C4 101 V5:=C6
theorem c102:C4 102 a2A:=C6
theorem c29:C4 29 X29:=C6
theorem c119:C4 119 b0V:=C6
theorem c24:C4 24 X24:=C6
theorem c62:C4 62 X62:=C6
theorem c120:C4 120 a9K:=C6
theorem c64:C4 64 X64:=C6
theorem c65:C4 65 X65:=C6
theorem c66:C4 66 X66:=C6
theorem c27:C4 27 X27:=C6
theorem c86:C4 86 X86:=C6
theorem b3Q:F0 46 [0,0,0] [] (SP start):=by refine E4 c46 1 (by simp[X46]) fun Q a b=>?_;simp[X46];refine a _ _ ?_;simp[X46,start]
theorem b8d(b:UInt8):F0 86 [0] [U b.toNat] (IN (a1r b)):=by
 refine E4 c86 0 (by simp[X86]) fun Q e n=>?_;have h:=a9m b;have a:a1r b=(if 97≤P9 b∧P9 b≤122 then 1 else if 65≤P9 b∧P9 b≤90 then 2 else if 48≤P9 b∧P9 b≤57 then 3 else if P9 b=32 then 4 else 5):=rfl;generalize P9 b=c at h a;by_cases f:97≤c∧c≤122
 . rw[if_pos f]at a;simp[X86,h,f];refine e _ _ ?_;simp[X86,a]
 rw[if_neg f]at a;by_cases a3:65≤c∧c≤90
 . rw[if_pos a3]at a;have d:¬97≤c:=i9;simp[X86,h,a3,d];refine e _ _ ?_;simp[X86,a]
 rw[if_neg a3]at a;by_cases a5:48≤c∧c≤57
 . rw[if_pos a5]at a;have d:¬97≤c:=i9;have g:¬65≤c:=i9;simp[X86,h,a5,d,g];refine e _ _ ?_;simp[X86,a]
 rw[if_neg a5]at a;by_cases d:97≤c<;>by_cases g:65≤c<;>by_cases j:48≤c<;>by_cases i:c=32<;>(try (exfalso;omega))<;>
  (have k:97≤c→¬c≤122:=i9
   have l:65≤c→¬c≤90:=i9;have m:48≤c→¬c≤57:=i9;simp only[i,if_true,if_false]at a;simp[X86,h,d,g,j,i,k,l,m];refine e _ _ ?_;simp[X86,a])
theorem b1t(m k:Nat)(hm:m<256)(c:k≤1000000):F0 85 [0] [UN m,IN k] (B (bit m k)):=by
 refine E4 c85 0 (by simp[X85]) fun Q b d=>?_;by_cases a:k<8
 . have h:=c1f hm a;simp[X85,a,IntKind.bits];simp at h;refine b _ _ ?_;simp[X85,bit,a,h]
 . simp[X85,a];refine b _ _ ?_;simp[X85,bit,a]
theorem a9J(t:j9)(s:State)(b:OkT t)(hs:OkS s):F0 49 [0] [TP t,SP s] (B (C0 t s)):=by
 refine E4 c49 2 (by simp[X49]) fun Q a d=>?_;have h1:=b1t t.accept s.mode b.accept hs.mode;have c:=b1t s.need 0 hs.need i9;by_cases hm:s.mode<t.modes
 . simp[X49,hm];refine m6 h1 ?_;cases hb:bit t.accept s.mode
   . simp;refine a _ _ ?_;simp[X49,C0,hb]
   . simp;refine m6 c ?_;simp;refine a _ _ ?_;simp[X49,C0,hb,hm]
 . simp[X49,hm];refine a _ _ ?_;simp[X49,C0,hm]
theorem a5Z(t:j9)(s:State)(k:Nat)(i:OkT t)(hs:OkS s)(v:k≤1000000):F0 47 [0,0,0,0] [TP t,SP s,IN k] (a1z (step t s k)):=by
 refine E4 c47 4 (by simp[X47]) fun Q j w=>?_;have hlen:=i.len;by_cases d:k<t.rules.length
 . have g:¬((t.rules.length:Int)≤k):=i9;have b:step t s k=a5w t.rules[k] s:=(by unfold step;rw[m7 d];rfl);have hr:=i.a1p _ (B7 d);simp[X47,d,g];generalize t.rules[k]=r at hr b;unfold a5w at b;have c:∀(o:Option State) vs h,step t s k=o→fin X47.results [0,0,0,0] (a1z o) vs h→Q .ret vs h:=fun o vs h x y=>j _ _ (by grind);by_cases e:r.src=s.mode
   . simp[e];refine m6 (b1t r.left s.last hr.left (by have:=hs.last;omega)) ?_;cases hb:bit r.left s.last
     . rw[if_pos (.inr hb)]at b;simp;refine c _ _ _ b ?_;simp[X47,D7]
     . rw[if_neg (by simp[e,hb])]at b;by_cases hp:r.print=[]
       . rw[if_pos hp]at b;simp[hp,b2v hs.need hr.right];by_cases f:s.need&&&r.right=0
         . rw[if_pos f]at b;simp[f];refine c _ _ _ b ?_;simp[X47,D7]
         . rw[if_neg f]at b;have z:¬((s.need&&&r.right:Nat):Int)=0:=i9;simp[f];refine c _ _ _ b ?_;simp[X47,b2v hs.need hr.right]
       . rw[if_neg hp]at b;have h0:0<r.print.length:=a2p.2 hp;have n:=b8d r.print[0];have p:=b8d r.print[r.print.length-1];have q:r.print.headD 0=r.print[0]:=(by obtain⟨a,l,h⟩:=a7P hp;simp[h]);have el:r.print.getLastD 0=r.print[r.print.length-1]:=(by grind);have u:r.print.length-1<r.print.length:=i9;have hlen:=hr.print;have hw:IntKind.i64.wrap ((r.print.length:Int)-1)=((r.print.length-1:Nat):Int):=(by rw[wrap_ok i9 i9];omega);rw[q,el]at b;simp[hp,h0];refine m6 n ?_;simp;refine m6 (b1t s.need _ hs.need (by have:=b0Q r.print[0];omega)) ?_;cases m:bit s.need (a1r r.print[0])
         . rw[if_pos m]at b;simp;refine c _ _ _ b ?_;simp[X47,D7]
         . rw[if_neg (by simp[m])]at b;simp[hw,u];refine m6 p ?_;simp;refine c _ _ _ b ?_;simp[X47]
   . rw[if_pos (.inl e)]at b;simp[e];refine c _ _ _ b ?_;simp[X47,D7]
 . have g:((t.rules.length:Int)≤k):=i9;have b:step t s k=none:=(by unfold step;rw[a0d i9];rfl);simp[X47,d,g];refine j _ _ ?_;simp[X47,D7,b]
theorem a8a(L:List State)(s:State)(m:L.length≤1100000000):F0 48 [0] [.slc (E8 L),SP s] (I (match L.idxOf? s with|some n=>(n:Int)|none=> -1)):=by
 refine E4 c48 2 (by simp[X48]) fun Q b o=>?_;simp[X48];refine I6 (fun(k:Nat) vs h=>k≤L.length∧(∀j,(hj:j<L.length)→j<k→L[j]≠s)∧vs=[.slc (E8 L),.uu,.ptr 1 1 0,.uu,IN k,.uu,.uu]∧h=[dd,(1,.var [IN s.mode,IN s.last,UN s.need])]) (fun k=>L.length-k) 0 ?_ ?_
 . simp
 . rintro k vs h ⟨g1,g2,rfl,rfl⟩ Q' e f g;by_cases c:k<L.length
   . have hw:=wk1 k i9;have heq:(L[k]=s)=(L[k].mode=s.mode∧L[k].last=s.last∧L[k].need=s.need):=by
      generalize L[k]=a;cases a;cases s;simp
     by_cases d:L[k]=s
     . have hi:L.idxOf? s=some k:=by
        rw[List.idxOf?,a1Y]
        grind
       simp[c,d];refine g _ _ ?_;simp;refine b _ _ ?_;simp[X48,hi]
     . have i:(decide (L[k].mode=s.mode)&&(decide (L[k].last=s.last)&&decide (L[k].need=s.need)))=false:=by
        rw[heq]at d
        grind
       simp[c,hw,i];refine e (k+1) _ _ i9 ?_;simp
       grind
   . obtain rfl:k=L.length:=i9;have hi:L.idxOf? s=none:=by
      rw[List.idxOf?,a5P];intro x l;obtain⟨j,hj,rfl⟩:=a1t l;simpa using g2 j hj hj
     simp;refine f _ _ _ ?_;simp;refine b _ _ ?_;simp[X48,hi]
theorem b3H(t:j9)(d:s8 t):F0 43 [3] [TP t] (.uslc (E8 (j4 t))):=by
 refine E4 c43 9 (by simp[X43]) fun Q s H=>?_;have I:=d.l64;simp[X43];refine m6 b3Q ?_;simp;refine I6 (fun(p:Nat×Ex) vs h=>a1e t (3073-p.1) p.1 p.2=explore t∧Inv (p.1*64) p.2∧p.1≤p.2.1.length∧
  vs=[.uu,.ptr 5 1 0,.uu,.own 6 1 p.2.1.length 3 0 p.2.1.length,IN p.1,.uu,.uu,.uu,.uu,.uu,.uu]∧
  h=[dd,dd,dd,dd,dd,(1,.var [IN t.modes,UN t.accept,.slc (t.rules.map RP)]),(1,.arr 3 0 false (E8 p.2.1)),dd,dd]) (fun p=>3073-p.1) (0,([start],[[]])) ?_ ?_
 . simp;exact⟨rfl,a8z⟩
 . rintro⟨k,L,F⟩ vs h ⟨g1,g2,g3,rfl,rfl⟩ Q' u v J;dsimp only at g1 g2 g3;have w:=g2.le;dsimp only at w;by_cases e:k<L.length
   . have hw:=wk1 k i9;simp[e];refine I6 (fun(j:Nat) vs h=>j≤t.rules.length∧
      vs=[.uu,.ptr 5 1 0,.uu,.own 6 1 (Z7 t k (L,F) j).1.length 3 0 (Z7 t k (L,F) j).1.length,IN k,IN j,.uu,.uu,.uu,.uu,.uu]∧
      h=[dd,dd,dd,dd,dd,(1,.var [IN t.modes,UN t.accept,.slc (t.rules.map RP)]),(1,.arr 3 0 false (E8 (Z7 t k (L,F) j).1)),dd,dd]) (fun j=>t.rules.length-j) 0 ?_ ?_
     . simp[Z7]
     . rintro j vs h ⟨K,rfl,rfl⟩ Q2 i x M;obtain⟨b,m⟩:=a5F d g2 e j;have a:=a9I t k (L,F) j;by_cases hj:j<t.rules.length
       . have o:=wk1 j i9;generalize Z7 t k (L,F) j=A at b m a;obtain⟨L',F'⟩:=A;have f:k<L'.length:=(by grind);have y:=b.le;dsimp only at y;have c:=a5Z t L'[k] j d.ok (b.val _ (B7 f)).ok i9;have z:L'.getD k D7=L'[k]:=(by grind);unfold a4P at a;simp only[z]at a;cases hs:step t L'[k] j with
         |none=>
          simp only[hs]at a;simp only[a1z,hs]at c;simp[hj,f];refine m6 c ?_;simp[o];refine i (j+1) _ _ i9 ?_;simp[a];omega
         |some nx=>
          have g:=a8a L' nx i9;simp only[hs]at a;simp only[a1z,hs]at c;cases r:L'.idxOf? nx with
          |some n=>
           simp only[r]at a g;have B:¬(n:Int)<0:=i9;simp[hj,f];refine m6 c ?_;simp;refine m6 g ?_;simp[o,B];refine i (j+1) _ _ i9 ?_;simp[a];omega
          |none=>
           simp only[r]at a g;obtain⟨L2,q⟩:=ex1 (L'++[nx]);have C:E8 L'++[.agg [IN nx.mode,IN nx.last,UN nx.need]]=E8 L2:=(by rw[←q];simp);have D:L'.length+1=L2.length:=(by rw[←q];simp);have E:L2.length*24≤140737488355328:=i9;rw[q]at a;simp[hj,f];refine m6 c ?_;simp;refine m6 g ?_;simp[o,C,D,E];refine i (j+1) _ _ i9 ?_;simp[a];omega
       . obtain rfl:j=t.rules.length:=i9;simp;refine x _ _ _ ?_;simp[hw];refine u (k+1,Z7 t k (L,F) t.rules.length) _ _ i9 ?_;obtain⟨b,m⟩:=a5F d g2 e t.rules.length;dsimp only at m;have hex:a1e t (3073-k) k (L,F)=a1e t (3072-k) (k+1) (Z7 t k (L,F) t.rules.length):=by
          rw[show 3073-k=(3072-k)+1 by omega];simp only[a1e];rw[if_pos e]
         rw[hex]at g1;simp;refine⟨g1,⟨b.nodup,b.val,b.len,fun l G=>by have:=b.short l G;omega,b.pos⟩,i9⟩
   . obtain rfl:k=L.length:=i9;simp;refine v _ _ _ ?_;simp;refine s _ _ ?_;have hex:explore t=(L,F):=by
      rw[←g1,show 3073-L.length=(3072-L.length)+1 by omega];simp only[a1e];rw[if_neg i9]
     simp[X43,j4,hex]
structure AR(t:j9)(A:List Bool):Prop where
 len:A.length=(j4 t).length
 live:∀i:Nat,A[i]?=some true→∃s,(j4 t)[i]?=some s∧Live t s
 acc:∀(i:Nat) s,(j4 t)[i]?=some s→C0 t s=true→A[i]?=some true
theorem a0U{t:j9}(ht:s8 t){s:State}(hs:s∈j4 t):∃n,(j4 t).idxOf? s=some n∧(j4 t)[n]?=some s:=by
 cases hn:(j4 t).idxOf? s with
 |none=>
  rw[List.idxOf?,a5P]at hn;have:=hn s hs;simp at this
 |some n=>
  obtain⟨h1,h2,_⟩:=a1Y.1 hn;exact⟨n,rfl,by rw[m7 h1];congr 1;simpa using h2⟩
theorem b8V{L:List State}{s:State}{n:Nat}(h:L.idxOf? s=some n):∃hn:n<L.length,L[n]=s:=by
 obtain⟨h1,h2,_⟩:=a1Y.1 h
 grind
def a3j(t:j9)(A:List Bool)(i:Nat)(j:Nat):Prop:=∀(hi:i<(j4 t).length),A[i]?=some false→∀k s' n,k<j→step t (j4 t)[i] k=some s'→(j4 t).idxOf? s'=some n→A[n]?=some false
theorem AR.set{t:j9}{A:List Bool}(h:AR t A){i k n:Nat}{s':State}(hi:i<(j4 t).length)(hs:step t (j4 t)[i] k=some s')(hn:(j4 t).idxOf? s'=some n)(ha:A[n]?=some true):AR t (A.set i true):=by
 have hiA:i<A.length:=by rw[h.len];exact hi
 refine⟨by simp[h.len],fun j hj=>?_,fun j s h1 h2=>?_⟩
 . by_cases e:i=j
   . subst e;obtain⟨s,h3,h4⟩:=h.live n ha;obtain⟨h5,h6⟩:=b8V hn;rw[m7 h5,h6]at h3;cases h3;exact⟨_,m7 hi,b9M hs h4⟩
   . rw[F7 e]at hj;exact h.live j hj
 . by_cases e:i=j
   . grind
   . rw[F7 e];exact h.acc j s h1 h2
theorem AR.alive{t:j9}(ht:s8 t){A:List Bool}(h:AR t A)(hc:∀i,a3j t A i t.rules.length):A=M8 t:=by
 classical
 have key:∀(p:List Nat) (i:Nat) (s s':State),(j4 t)[i]?=some s→F6 t s p=some s'→C0 t s'=true→A[i]?=some true:=fun p=>by
  induction p with
  |nil=>intro i s s' h1 h2 h3;cases h2;exact h.acc i s h1 h3
  |cons m p ih=>
   intro i s s' h1 h2 h3;simp only[F6]at h2;obtain⟨s1,h4,h5⟩:=Y4.1 h2;obtain⟨hi,rfl⟩:=B8.1 h1;obtain⟨n,h6,h7⟩:=a0U ht (a0g ht (B7 hi) h4);have hiA:i<A.length:=(by rw[h.len];exact hi);rw[m7 hiA];cases ha:A[i]
   . have h8:=hc i hi (by grind) m s1 n (a2s h4) h4 h6
     grind
   . rfl
 refine W3 (by rw[h.len];simp[M8]) fun i h1 h2=>?_;simp only[M8,a0b];have hi:i<(j4 t).length:=by rw[←h.len];exact h1
 cases ha:A[i]
 . symm;rw[decide_eq_false_iff_not];rintro⟨p,s',h3,h4⟩;have:=key p i _ s' (m7 hi) h3 h4;rw[m7 h1,ha]at this;cases this
 . symm;rw[decide_eq_true_iff];obtain⟨s,h3,h4⟩:=h.live i (by grind);rw[m7 hi]at h3;cases h3;exact h4
theorem AR.init(t:j9):AR t ((j4 t).map (C0 t)):=
 ⟨l5,fun i hi=>by rw[H6]at hi;obtain⟨s,h1,h2⟩:=D0.1 hi;exact⟨s,h1,b8n h2⟩,fun i s h1 h2=>by rw[H6,h1];simp[h2]⟩
theorem c9H(t:j9)(ht:s8 t):F0 44 [1] [TP t] (.uslc ((M8 t).map B)):=by
 refine E4 c44 10 (by simp[X44]) fun Q hR hN=>?_;have hst:=b3H t ht;have hle:=a0G ht;have h64:=ht.l64;have hsv:=fun s hs=>(a2R ht (s:=s) hs).ok;simp[X44];refine m6 hst ?_;simp;refine I6 (fun(x:Nat×List Bool) vs h=>x.1≤(j4 t).length∧x.2=((j4 t).take x.1).map (C0 t)∧
  vs=[.uu,.ptr 6 1 0,.uu,.slc (E8 (j4 t)),.own 7 1 x.2.length 1 0 x.2.length,IN x.1,.uu,.uu,.uu,.uu,.uu,.uu,.uu,.uu,.uu,.uu]∧
  h=[dd,dd,dd,dd,dd,dd,(1,.var [IN t.modes,UN t.accept,.slc (t.rules.map RP)]),(1,.arr 1 0 false (x.2.map B)),dd,dd]) (fun x=>(j4 t).length-x.1) (0,[]) ?_ ?_
 . simp
 . rintro⟨i,A⟩ vs h ⟨g1,g2,rfl,rfl⟩ Q' hK hX hR';dsimp only at g1 g2;by_cases hi:i<(j4 t).length
   . have hw:=wk1 i i9;have hac:=a9J t (j4 t)[i] ht.ok (hsv _ (B7 hi));obtain⟨A2,hA2⟩:=ex1 (A++[C0 t (j4 t)[i]]);have e1:A.map B++[B (C0 t (j4 t)[i])]=A2.map B:=(by rw[←hA2];simp);have e2:A.length+1=A2.length:=(by rw[←hA2];simp);have e3:A2=((j4 t).take (i+1)).map (C0 t):=(by rw[←hA2,g2,L3,m7 hi,Q9];rfl);have e4:A2.length=i+1:=(by grind);have b1:A2.length≤140737488355328:=i9;simp[hi];refine m6 hac ?_;simp[hw,hi,e1,e2,b1];refine hK (i+1,A2) _ _ i9 ?_;simp;exact⟨i9,by simpa using e3⟩
   . obtain rfl:i=(j4 t).length:=i9;rw[M4]at g2;have hA0:=AR.init t;rw[←g2]at hA0;simp;refine hX _ _ _ ?_;simp;refine I6 (fun(x:List Bool×Bool) vs h=>AR t x.1∧(x.2=false→∀i,a3j t x.1 i t.rules.length)∧
      vs=[.uu,.ptr 6 1 0,.uu,.slc (E8 (j4 t)),.own 7 1 x.1.length 1 0 x.1.length,.uu,B x.2,.uu,.uu,.uu,.uu,.uu,.uu,.uu,.uu,.uu]∧
      h=[dd,dd,dd,dd,dd,dd,(1,.var [IN t.modes,UN t.accept,.slc (t.rules.map RP)]),(1,.arr 1 0 false (x.1.map B)),dd,dd]) (fun x=>2*x.1.count false+x.2.toNat) (A,true) ?_ ?_
     . simp;exact hA0
     . rintro⟨A1,g⟩ vs h ⟨r1,r2,rfl,rfl⟩ Q2 hK2 hX2 hR2;dsimp only at r1 r2;cases g
       . have hA:=r1.alive ht (r2 rfl);simp;refine hX2 _ _ _ ?_;simp;refine hR _ _ ?_;simp[X44,hA]
       . simp;refine I6 (fun(x:Nat×List Bool×Bool) vs h=>x.1≤(j4 t).length∧AR t x.2.1∧(x.2.2=false→x.2.1=A1∧∀i,i<x.1→a3j t A1 i t.rules.length)∧(x.2.2=true→x.2.1.count false<A1.count false)∧
          vs=[.uu,.ptr 6 1 0,.uu,.slc (E8 (j4 t)),.own 7 1 x.2.1.length 1 0 x.2.1.length,.uu,B x.2.2,IN x.1,.uu,.uu,.uu,.uu,.uu,.uu,.uu,.uu]∧
          h=[dd,dd,dd,dd,dd,dd,(1,.var [IN t.modes,UN t.accept,.slc (t.rules.map RP)]),(1,.arr 1 0 false (x.2.1.map B)),dd,dd]) (fun x=>(j4 t).length-x.1) (0,A1,false) ?_ ?_
         . simp;exact r1
         . rintro⟨i,A2,g⟩ vs h ⟨q1,q2,q3,q4,rfl,rfl⟩ Q3 hK3 hX3 hR3;dsimp only at q1 q2 q3 q4;have hlA:=q2.len;by_cases hi:i<(j4 t).length
           . have hw:=wk1 i i9;have hiA:i<A2.length:=i9;simp[hi];refine I6 (fun(x:Nat×List Bool×Bool) vs h=>x.1≤t.rules.length∧AR t x.2.1∧(x.2.2=false→x.2.1=A1∧(∀i',i'<i→a3j t A1 i' t.rules.length)∧a3j t A1 i x.1)∧(x.2.2=true→x.2.1.count false<A1.count false)∧
              vs=[.uu,.ptr 6 1 0,.uu,.slc (E8 (j4 t)),.own 7 1 x.2.1.length 1 0 x.2.1.length,.uu,B x.2.2,IN i,IN x.1,.uu,.uu,.uu,.uu,.uu,.uu,.uu]∧
              h=[dd,dd,dd,dd,dd,dd,(1,.var [IN t.modes,UN t.accept,.slc (t.rules.map RP)]),(1,.arr 1 0 false (x.2.1.map B)),dd,dd]) (fun x=>t.rules.length-x.1) (0,A2,g) ?_ ?_
             . simp;refine⟨q2,fun e=>⟨(q3 e).1,(q3 e).2,fun _ _ k s' n hk=>absurd hk i9⟩,q4⟩
             . rintro⟨k,A3,g3⟩ vs h ⟨p1,p2,p3,p4,rfl,rfl⟩ Q4 hK4 hX4 hR4;dsimp only at p1 p2 p3 p4;have hlA3:=p2.len;have hiA3:i<A3.length:=i9;have hstep:=a5Z t (j4 t)[i] k ht.ok (hsv _ (B7 hi)) i9;have hexit:(g3=false→a3j t A1 i t.rules.length)→Q4 (.exit 6) [.uu,.ptr 6 1 0,.uu,.slc (E8 (j4 t)),.own 7 1 A3.length 1 0 A3.length,.uu,B g3,IN i,IN k,.uu,.uu,.uu,.uu,.uu,B false,.uu] [dd,dd,dd,dd,dd,dd,(1,.var [IN t.modes,UN t.accept,.slc (t.rules.map RP)]),(1,.arr 1 0 false (A3.map B)),dd,dd]:=fun hcl=>by
                refine hX4 _ _ _ ?_;simp[hw];refine hK3 (i+1,A3,g3) _ _ i9 ?_;simp;refine⟨i9,p2,fun e=>⟨(p3 e).1,fun i' hi'=>?_⟩,p4⟩;by_cases h2:i'<i
                . exact(p3 e).2.1 i' h2
                . grind
               by_cases hk:k<t.rules.length
               . have hwk:=wk1 k i9;cases hA:A3[i]
                 . cases hs:step t (j4 t)[i] k with
                   |none=>
                    simp only[a1z,hs]at hstep;simp[hk,hiA3,hA,hi];refine m6 hstep ?_;simp[hwk];refine hK4 (k+1,A3,g3) _ _ i9 ?_;simp;refine⟨i9,p2,fun e=>⟨(p3 e).1,(p3 e).2.1,fun h1 h2 k' s' n hk' h3 h4=>?_⟩,p4⟩;by_cases h5:k'<k
                    . exact(p3 e).2.2 h1 h2 k' s' n h5 h3 h4
                    . grind
                   |some s'=>
                    obtain⟨n,hn1,hn2⟩:=a0U ht (a0g ht (B7 hi) hs);have hix:=a8a (j4 t) s' i9;rw[hn1]at hix;have hnl:n<A3.length:=(by grind);simp only[a1z,hs]at hstep;cases hb:A3[n]
                    . simp[hk,hiA3,hA,hi];refine m6 hstep ?_;simp;refine m6 hix ?_;simp[hnl,hb,hwk];refine hK4 (k+1,A3,g3) _ _ i9 ?_;simp;refine⟨i9,p2,fun e=>⟨(p3 e).1,(p3 e).2.1,fun h1 h2 k' s2 n2 hk' h3 h4=>?_⟩,p4⟩;by_cases h5:k'<k
                      . exact(p3 e).2.2 h1 h2 k' s2 n2 h5 h3 h4
                      . grind
                    . have p2':=p2.set hi hs hn1 (by grind);have hcs:=b0A (A:=A3) (i:=i) (by grind);have e1:(A3.map B).set i (.bool true)=(A3.set i true).map B:=(by rw[H9]);have e2:(A3.set i true).length=A3.length:=l5;obtain⟨A4,hA4⟩:=ex1 (A3.set i true);rw[hA4]at e1 e2 p2' hcs;simp[hk,hiA3,hA,hi];refine m6 hstep ?_;simp;refine m6 hix ?_;simp[hnl,hb,hwk,hiA3,e1];refine hK4 (k+1,A4,true) _ _ i9 ?_;simp[e2]
                      grind
                 . simp[hk,hiA3,hA];refine hexit fun e=>?_;obtain⟨h1,_,_⟩:=p3 e;intro _ hf
                   grind
               . obtain rfl:k=t.rules.length:=i9;simp
                 grind
           . obtain rfl:i=(j4 t).length:=i9;simp;refine hX3 _ _ _ ?_;simp;refine hK2 (A2,g) _ _ ?_ ?_
             . dsimp only;cases g
               all_goals grind
             . simp;refine⟨q2,fun e i=>?_⟩;obtain⟨h1,h2⟩:=q3 e;rw[h1];by_cases hi:i<(j4 t).length
               . exact h2 i hi
               . exact fun h=>absurd h hi
set_option maxHeartbeats 16000000
def b1V(t:j9)(N:List Bool)(W:List Int)(i n:Nat):Prop:=∃(s:State) (k:Nat) (s':State),(j4 t)[i]?=some s∧W[i]?=some (k:Int)∧step t s k=some s'∧(j4 t).idxOf? s'=some n∧N[n]?=some true
structure HM(t:j9)(N:List Bool)(W:List Int)(q:Nat):Prop where
 ar:AR t N
 wl:W.length=(j4 t).length
 d:∃d:Nat→Nat,∀i,N[i]?=some true→d i≤q∧((∃s,(j4 t)[i]?=some s∧C0 t s=true)∨∃n,b1V t N W i n∧d n<d i)
structure HR(t:j9)(N:List Bool)(W:List Int)(R:List Bool)(V:List Int):Prop where
 ar:AR t R
 vl:V.length=(j4 t).length
 sub:∀i:Nat,N[i]?=some true→R[i]?=some true∧V[i]?=W[i]?
 new:∀i:Nat,R[i]?=some true→N[i]?=some true∨∃n,b1V t N V i n
theorem HR.start{t:j9}{N:List Bool}{W:List Int}{q:Nat}(h:HM t N W q):HR t N W N W:=⟨h.ar,h.wl,fun _ h=>⟨h,rfl⟩,fun _ h=>.inl h⟩
theorem HR.put{t:j9}{N R:List Bool}{W V:List Int}(h:HR t N W R V){i k n:Nat}{s':State}(hN:AR t N)(hi:i<(j4 t).length)(hR:R[i]?=some false)(hs:step t (j4 t)[i] k=some s')(hn:(j4 t).idxOf? s'=some n)(ha:N[n]?=some true):
 HR t N W (R.set i true) (V.set i (k:Int)):=by
 have hiV:i<V.length:=by rw[h.vl];exact hi
 have hiR:i<R.length:=by grind
 refine⟨h.ar.set hi hs hn (h.sub n ha).1,by simp[h.vl],fun j hj=>?_,fun j hj=>?_⟩
 . have e:i≠j:=fun e=>by
    subst e;rw[(h.sub i hj).1]at hR;cases hR
   rw[F7 e,F7 e];exact h.sub j hj
 . by_cases e:i=j
   . subst e;exact .inr ⟨n,_,k,s',m7 hi,F8 hiV,hs,hn,ha⟩
   . rw[F7 e]at hj;refine(h.new j hj).imp id fun⟨n2,s,k2,s2,a1,a2,a3,a4,a5⟩=>⟨n2,s,k2,s2,a1,by rw[F7 e];exact a2,a3,a4,a5⟩
theorem HR.done{t:j9}{N R:List Bool}{W V:List Int}{q:Nat}(h:HR t N W R V)(hm:HM t N W q):HM t R V (q+1):=by
 classical
 obtain⟨d,hd⟩:=hm.d;refine⟨h.ar,h.vl,fun i=>if N[i]?=some true then d i else q+1,fun i hi=>?_⟩;dsimp only;by_cases hN:N[i]?=some true
 . rw[if_pos hN];obtain⟨h1,h2⟩:=hd i hN;refine⟨i9,h2.imp id fun⟨n,⟨s,k,s',a1,a2,a3,a4,a5⟩,h4⟩=>⟨n,⟨s,k,s',a1,by rw[(h.sub i hN).2];exact a2,a3,a4,(h.sub n a5).1⟩,?_⟩⟩;rw[if_pos a5];exact h4
 . rw[if_neg hN];refine⟨m9 _,.inr ?_⟩;obtain⟨n,s,k,s',a1,a2,a3,a4,a5⟩:=(h.new i hi).resolve_left hN;refine⟨n,⟨s,k,s',a1,a2,a3,a4,(h.sub n a5).1⟩,?_⟩
   grind
structure b2O(t:j9)(W:List Int):Prop where
 wl:W.length=(j4 t).length
 d:∃d:Nat→Nat,∀i,(M8 t)[i]?=some true→d i≤3073∧((∃s,(j4 t)[i]?=some s∧C0 t s=true)∨∃n,b1V t (M8 t) W i n∧d n<d i)
theorem HM.ways{t:j9}(ht:s8 t){N:List Bool}{W:List Int}{q:Nat}(h:HM t N W q)(hq:q≤3073)(hc:∀i,a3j t N i t.rules.length):b2O t W:=by have hA:=h.ar.alive ht hc;obtain⟨d,hd⟩:=h.d;rw[hA]at hd;exact⟨h.wl,d,fun i hi=>⟨V1 (hd i hi).1 hq,(hd i hi).2⟩⟩
theorem c1w(t:j9)(ht:s8 t):∃W,b2O t W∧F0 45 [1] [TP t] (.uslc (W.map I)):=by
 suffices hh:∃r,(∃W,b2O t W∧r=.uslc (W.map I))∧F0 45 [1] [TP t] r by obtain⟨r,⟨W,h1,rfl⟩,h2⟩:=hh;exact⟨W,h1,h2⟩
 refine a1C mixed (X:=X45) c45 16 (by simp[X45]) (by kernel_rfl) fun Q hR hN=>?_;have hst:=b3H t ht;have hle:=a0G ht;have h64:=ht.l64;have hsv:=fun s hs=>(a2R ht (s:=s) hs).ok;simp[X45];refine m6 hst ?_;simp;refine I6 (fun(x:Nat×List Bool×List Int) vs h=>x.1≤(j4 t).length∧x.2.1=((j4 t).take x.1).map (C0 t)∧x.2.2=List.replicate x.1 (-1)∧
  vs=[.uu,.ptr 11 1 0,.uu,.slc (E8 (j4 t)),.own 12 1 x.2.2.length 1 0 x.2.2.length,.own 13 1 x.2.1.length 1 0 x.2.1.length,IN x.1,.uu,.uu,.uu,.uu,.uu,.uu,.uu,.uu,.uu,.uu,.uu]∧
  h=[dd,dd,dd,dd,dd,dd,dd,dd,dd,dd,dd,(1,.var [IN t.modes,UN t.accept,.slc (t.rules.map RP)]),(1,.arr 1 0 false (x.2.2.map I)),(1,.arr 1 0 false (x.2.1.map B)),dd,dd]) (fun x=>(j4 t).length-x.1) (0,[],[]) ?_ ?_
 . simp
 . rintro⟨i,A,W⟩ vs h ⟨g1,g2,g3,rfl,rfl⟩ Q' hK hX hR';dsimp only at g1 g2 g3;by_cases hi:i<(j4 t).length
   . have hw:=wk1 i i9;have hac:=a9J t (j4 t)[i] ht.ok (hsv _ (B7 hi));obtain⟨A2,hA2⟩:=ex1 (A++[C0 t (j4 t)[i]]);have e1:A.map B++[B (C0 t (j4 t)[i])]=A2.map B:=(by rw[←hA2];simp);have e2:A.length+1=A2.length:=(by rw[←hA2];simp);have e3:A2=((j4 t).take (i+1)).map (C0 t):=(by rw[←hA2,g2,L3,m7 hi,Q9];rfl);have e4:A2.length=i+1:=(by grind);have b1:A2.length≤140737488355328:=i9;obtain⟨W2,hW2⟩:=ex1 (W++[-1]);have f1:W.map I++[I (-1)]=W2.map I:=(by rw[←hW2];simp);have f2:W.length+1=W2.length:=(by rw[←hW2];simp);have f3:W2=List.replicate (i+1) (-1):=(by rw[←hW2,g3,List.replicate_succ']);have f4:W2.length*8≤140737488355328:=(by grind);simp[hi,f1,f2,f4];refine m6 hac ?_;simp[hw,hi,e1,e2,b1];refine hK (i+1,A2,W2) _ _ i9 ?_;simp;exact⟨i9,by simpa using e3,f3⟩
   . obtain rfl:i=(j4 t).length:=i9;rw[M4]at g2;have hA0:=AR.init t;rw[←g2]at hA0;simp;refine hX _ _ _ ?_;have hH0:HM t A W 0:=⟨hA0,by rw[g3];simp,fun _=>0,fun i hi=>⟨m9 _,.inl (by
      rw[g2,H6]at hi;obtain⟨s,h1,h2⟩:=D0.1 hi;exact⟨s,h1,h2⟩)⟩⟩
     simp;refine I6 (fun(x:List Bool×List Int×Bool×Nat) vs h=>HM t x.1 x.2.1 x.2.2.2∧(x.2.2.1=false→∀i,a3j t x.1 i t.rules.length)∧x.2.2.2+x.1.count false+x.2.2.1.toNat≤(j4 t).length+1∧
      vs=[.uu,.ptr 11 1 0,.uu,.slc (E8 (j4 t)),.own 12 1 x.2.1.length 1 0 x.2.1.length,.own 13 1 x.1.length 1 0 x.1.length,.uu,B x.2.2.1,.uu,.uu,.uu,.uu,.uu,.uu,.uu,.uu,.uu,.uu]∧
      h=[dd,dd,dd,dd,dd,dd,dd,dd,dd,dd,dd,(1,.var [IN t.modes,UN t.accept,.slc (t.rules.map RP)]),(1,.arr 1 0 false (x.2.1.map I)),(1,.arr 1 0 false (x.1.map B)),dd,dd]) (fun x=>2*x.1.count false+x.2.2.1.toNat) (A,W,true,0) ?_ ?_
     . simp;refine⟨hH0,?_⟩;have:=List.count_le_length (a:=false) (l:=A);have:=hA0.len;omega
     . rintro⟨N,W1,g,q⟩ vs h ⟨r1,r2,r3,rfl,rfl⟩ Q2 hK2 hX2 hR2;dsimp only at r1 r2 r3;cases g
       . have hA:=r1.ways ht i9 (r2 rfl);simp;refine hX2 _ _ _ ?_;simp;refine hR _ _ _ ⟨W1,hA,rfl⟩ ?_;simp[X45]
       . have hNl:=r1.ar.len;have b0:N.length≤140737488355328:=i9;simp[b0];refine I6 (fun(x:Nat×List Bool×List Int×Bool) vs h=>x.1≤(j4 t).length∧HR t N W1 x.2.1 x.2.2.1∧(x.2.2.2=false→x.2.1=N∧∀i,i<x.1→a3j t N i t.rules.length)∧(x.2.2.2=true→x.2.1.count false<N.count false)∧
          vs=[.uu,.ptr 11 1 0,.uu,.slc (E8 (j4 t)),.own 12 1 x.2.2.1.length 1 0 x.2.2.1.length,.own 13 1 N.length 1 0 N.length,.uu,B x.2.2.2,.own 14 1 x.2.1.length 1 0 x.2.1.length,IN x.1,.uu,.uu,.uu,.uu,.uu,.uu,.uu,.uu]∧
          h=[dd,dd,dd,dd,dd,dd,dd,dd,dd,dd,dd,(1,.var [IN t.modes,UN t.accept,.slc (t.rules.map RP)]),(1,.arr 1 0 false (x.2.2.1.map I)),(1,.arr 1 0 false (N.map B)),(1,.arr 1 0 false (x.2.1.map B)),dd]) (fun x=>(j4 t).length-x.1) (0,N,W1,false) ?_ ?_
         . simp;exact HR.start r1
         . rintro⟨i,R,V,g⟩ vs h ⟨q1,q2,q3,q4,rfl,rfl⟩ Q3 hK3 hX3 hR3;dsimp only at q1 q2 q3 q4;have hlR:=q2.ar.len;by_cases hi:i<(j4 t).length
           . have hw:=wk1 i i9;simp[hi];refine I6 (fun(x:Nat×List Bool×List Int×Bool) vs h=>x.1≤t.rules.length∧HR t N W1 x.2.1 x.2.2.1∧(x.2.2.2=false→x.2.1=N∧(∀i',i'<i→a3j t N i' t.rules.length)∧a3j t N i x.1)∧(x.2.2.2=true→x.2.1.count false<N.count false)∧
              vs=[.uu,.ptr 11 1 0,.uu,.slc (E8 (j4 t)),.own 12 1 x.2.2.1.length 1 0 x.2.2.1.length,.own 13 1 N.length 1 0 N.length,.uu,B x.2.2.2,.own 14 1 x.2.1.length 1 0 x.2.1.length,IN i,IN x.1,.uu,.uu,.uu,.uu,.uu,.uu,.uu]∧
              h=[dd,dd,dd,dd,dd,dd,dd,dd,dd,dd,dd,(1,.var [IN t.modes,UN t.accept,.slc (t.rules.map RP)]),(1,.arr 1 0 false (x.2.2.1.map I)),(1,.arr 1 0 false (N.map B)),(1,.arr 1 0 false (x.2.1.map B)),dd]) (fun x=>t.rules.length-x.1) (0,R,V,g) ?_ ?_
             . simp;refine⟨q2,fun e=>⟨(q3 e).1,(q3 e).2,fun _ _ k s' n hk=>absurd hk i9⟩,q4⟩
             . rintro⟨k,R3,V3,g3⟩ vs h ⟨p1,p2,p3,p4,rfl,rfl⟩ Q4 hK4 hX4 hR4;dsimp only at p1 p2 p3 p4;have hlR3:=p2.ar.len;have hlV3:=p2.vl;have hiR3:i<R3.length:=i9;have hiV3:i<V3.length:=i9;have hstep:=a5Z t (j4 t)[i] k ht.ok (hsv _ (B7 hi)) i9;have hexit:(g3=false→a3j t N i t.rules.length)→Q4 (.exit 6) [.uu,.ptr 11 1 0,.uu,.slc (E8 (j4 t)),.own 12 1 V3.length 1 0 V3.length,.own 13 1 N.length 1 0 N.length,.uu,B g3,.own 14 1 R3.length 1 0 R3.length,IN i,IN k,.uu,.uu,.uu,.uu,.uu,B false,.uu] [dd,dd,dd,dd,dd,dd,dd,dd,dd,dd,dd,(1,.var [IN t.modes,UN t.accept,.slc (t.rules.map RP)]),(1,.arr 1 0 false (V3.map I)),(1,.arr 1 0 false (N.map B)),(1,.arr 1 0 false (R3.map B)),dd]:=fun hcl=>by
                refine hX4 _ _ _ ?_;simp[hw];refine hK3 (i+1,R3,V3,g3) _ _ i9 ?_;simp;refine⟨i9,p2,fun e=>⟨(p3 e).1,fun i' hi'=>?_⟩,p4⟩;by_cases h2:i'<i
                . exact(p3 e).2.1 i' h2
                . grind
               by_cases hk:k<t.rules.length
               . have hwk:=wk1 k i9;cases hA:R3[i]
                 . cases hs:step t (j4 t)[i] k with
                   |none=>
                    simp only[a1z,hs]at hstep;simp[hk,hiR3,hA,hi];refine m6 hstep ?_;simp[hwk];refine hK4 (k+1,R3,V3,g3) _ _ i9 ?_;simp;refine⟨i9,p2,fun e=>⟨(p3 e).1,(p3 e).2.1,fun h1 h2 k' s' n hk' h3 h4=>?_⟩,p4⟩;by_cases h5:k'<k
                    . exact(p3 e).2.2 h1 h2 k' s' n h5 h3 h4
                    . grind
                   |some s'=>
                    obtain⟨n,hn1,hn2⟩:=a0U ht (a0g ht (B7 hi) hs);have hix:=a8a (j4 t) s' i9;rw[hn1]at hix;have hnl:n<N.length:=(by grind);simp only[a1z,hs]at hstep;cases hb:N[n]
                    . simp[hk,hiR3,hA,hi];refine m6 hstep ?_;simp;refine m6 hix ?_;simp[hnl,hb,hwk];refine hK4 (k+1,R3,V3,g3) _ _ i9 ?_;simp;refine⟨i9,p2,fun e=>⟨(p3 e).1,(p3 e).2.1,fun h1 h2 k' s2 n2 hk' h3 h4=>?_⟩,p4⟩;by_cases h5:k'<k
                      . exact(p3 e).2.2 h1 h2 k' s2 n2 h5 h3 h4
                      . grind
                    . have p2':=p2.put r1.ar hi (by grind) hs hn1 (by grind);have hcs:=b0A (A:=R3) (i:=i) (by grind);have e1:(R3.map B).set i (.bool true)=(R3.set i true).map B:=(by rw[H9]);have e2:(R3.set i true).length=R3.length:=l5;have e3:(V3.map I).set i (IN k)=(V3.set i (k:Int)).map I:=(by rw[H9]);have e4:(V3.set i (k:Int)).length=V3.length:=l5;obtain⟨R4,hR4'⟩:∃R4,R3.set i true=R4:=⟨_,rfl⟩
                      obtain⟨V4,hV4⟩:∃V4,V3.set i (k:Int)=V4:=⟨_,rfl⟩
                      rw[hR4']at e1 e2 p2' hcs;rw[hV4]at e3 e4 p2';simp[hk,hiR3,hA,hi];refine m6 hstep ?_;simp;refine m6 hix ?_;simp[hnl,hb,hwk,hiR3,hiV3,e1,e3];refine hK4 (k+1,R4,V4,true) _ _ i9 ?_;simp[e2,e4]
                      grind
                 . simp[hk,hiR3,hA];refine hexit fun e=>?_;obtain⟨h1,_,_⟩:=p3 e;intro _ hf
                   grind
               . obtain rfl:k=t.rules.length:=i9;simp
                 grind
           . obtain rfl:i=(j4 t).length:=i9;simp;refine hX3 _ _ _ ?_;simp;refine hK2 (R,V,g,q+1) _ _ ?_ ?_
             . dsimp only;cases g
               all_goals grind
             . simp;refine⟨q2.done r1,fun e i=>?_,by
                simp at r3;cases g
                . rw[(q3 rfl).1];simp;omega
                . have:=q4 rfl;simp;omega⟩
               obtain⟨h1,h2⟩:=q3 e;rw[h1];by_cases hi:i<(j4 t).length
               . exact h2 i hi
               . exact fun h=>absurd h hi
end Go.Proofs.YtbhfgadikmfjdaaGreat.T
