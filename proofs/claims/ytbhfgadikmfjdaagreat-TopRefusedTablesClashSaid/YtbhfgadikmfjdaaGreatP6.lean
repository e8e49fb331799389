/-
  The plain machine, that it is sound, and walks: part 6 (joined and shortened by a program of the prover's).
-/
import Derived.Test.YtbhfgadikmfjdaaGreatP5
import Derived.Test.YtbhfgadikmfjdaaGreatProg
import Derived.KernelRfl
set_option linter.unusedSimpArgs false
set_option linter.unusedVariables false
set_option linter.unusedSectionVars false
namespace Go.Proofs.YtbhfgadikmfjdaaGreat.T
open Go.Proofs.YtbhfgadikmfjdaaGreat.Am
set_option maxHeartbeats 16000000
section
variable{t:j9}
def ShR(t:j9)(x:RX)(r:PV)(h:l5):Prop:=((r=.tup [.nils,B false]∧¬Two t)∨∃(w:By) (g:Nat),r=.tup [.own 15 g w.length 1 0 w.length,B true]∧h[15]?=some (g,.arr 1 0 false (w.map UB))∧w.length≤260128513∧∃a b,M7 t (w.map UInt8.toNat) a∧M7 t (w.map UInt8.toNat) b∧a≠b)∧h.take 3=[x.c0,x.c1,x.c2]
theorem c2D{t:j9}(h:¬Live t start):¬Two t:=fun⟨_,_,_,⟨q,st',h1,h2,_,_⟩,_,_⟩=>h ⟨q,st',h1,h2⟩
theorem HSI.root(ht:s5 t):HSI t ([⟨0,[]⟩],[none]):=by
 refine⟨k7,fun h hh=>?_,rfl,fun n L h h1 h2=>?_⟩
 . rw[F7]at hh;subst hh;exact HfB.root ht
 . grind
def stN:Nd:=⟨0,0,⟨0,[]⟩⟩
def a4d:FT:=[((0,0),[⟨0,[]⟩])]
theorem SrI.root:SrI t [⟨0,[]⟩] a4d fun n=>n=stN:=by
 have hR:∀n,Rec a4d n→n=stN:=fun n hn=>by
  obtain⟨a,b,l⟩:=n;unfold Rec a4d at hn;rw[a4t]at hn;split at hn
  . rename_i e;have e1:0=a:=congrArg Prod.fst e;have e2:0=b:=congrArg Prod.snd e;have e3:=F7.1 hn;simp only at e3;rw[←e1,←e2,e3];rfl
  . cases hn
 refine⟨fun n hn=>?_,fun n hn=>.inl (hR n hn),by simp[a4d],fun e he=>?_,fun e he=>?_,rfl,?_⟩
 . rw[hR n hn];exact⟨⟨[],[],[],⟨0,[]⟩,⟨0,[]⟩,rfl,rfl,⟨rfl,rfl⟩,⟨rfl,rfl⟩,rfl⟩,fun hc=>hc.1 rfl⟩
 . rw[a4d,F7]at he;subst he;simp
 . rw[a4d,F7]at he;subst he;simp
 . unfold Rec a4d;rw[a4t];simp
theorem HP.A7(ht:s5 t):∀{w:By} {h:Hf} {p:By} {h':Hf},HP t h w p h'→p.length≤4*w.length
 | [],h,p,h',hp=>by obtain⟨rfl,rfl⟩:=hp;simp
 |c::w,h,p,h',hp=>by
  obtain⟨p1,h1,p2,a1,a2,rfl⟩:=hp;have:=a1.A7 ht;have:=HP.A7 ht a2
  grind
theorem NS.c0p(ht:s5 t){Hs:List Hf}{w:By}{n:Nd}(h:NS t Hs w n):n.l.x.length≤8*w.length∧n.l.s≤3:=by obtain⟨u,v,ha,hb,_,_,h1,h2,h3⟩:=h;have e1:=h1.A7 ht;have e2:=h2.A7 ht;have e3:=b7u u v;rw[h3];exact⟨i9,b3i u v⟩
theorem a9h:∀g:O0,(W8 g).length=g.length-1
 | []=>rfl
 | [_]=>rfl
 |(_,c)::g::gs=>by rw[W8,a0u,a9h (g::gs)];simp
structure Kp(x y:RX):Prop where
 a:y.l.take 3=x.l.take 3
 d:y.c24.2=.dead
theorem Kp.of{x y z:RX}(h:Kp x y)(e:a0g z.l=a0g y.l):Kp x z:=by
 simp[a0g,RX.l]at e;refine⟨?_,?_⟩
 . have:=h.a;simp[RX.l]at this⊢;simp[e,this]
 . rw[show z.c24=y.c24 from by simp[e]];exact h.d
theorem Kp.of2{x y z:RX}(h:Kp x y)(e:{z with K4:=y.K4}.l.take 15=y.l.take 15)(hd:z.c24.2=.dead):Kp x z:=by simp[RX.l]at e;refine⟨?_,hd⟩;have:=h.a;simp[RX.l]at this⊢;simp[e,this]
@[simp ↓] theorem d1H(lk:D6)(g:O0):fzC lk (GP g)=GP g:=by cases g<;>rfl
@[simp ↓] theorem d1k(g:O0):A6 (GP g)=true:=by cases g<;>rfl
@[simp ↓] theorem d2A(g:O0):l6 (GP g)=[GP g]:=by cases g<;>rfl
@[simp ↓] theorem d1B(g:O0):one (GP g)=true:=by cases g<;>rfl
@[simp ↓] theorem c8p(g:O0):B3 (GP g)=GP g:=by cases g<;>rfl
@[simp ↓] theorem c3f(g:O0):D4 (GP g)=true:=by cases g<;>rfl
theorem c9n(L:List O0):∀x,x∈L.map GP→D4 x=true:=fun x hx=>by obtain⟨g,_,rfl⟩:=E9.1 hx;exact c3f g
@[simp ↓] theorem d1O(L:List O0):(L.map GP).all D4=true:=A8.2 (c9n L)
@[simp] theorem d1a(L:List O0):List.map (B3∘GP) L=L.map GP:=L9 fun g _=>c8p g
theorem b0U{y z:RX}(e:a0g z.l=a0g y.l):z.K4=y.K4∧z.J6=y.J6∧z.c14=y.c14∧z.c15=y.c15∧z.c17=y.c17∧z.c19=y.c19:=by simp[a0g,RX.l]at e;simp[e]
structure WV where
 (w6 w7 w8 w9 w10 w11 w13 w14 w15 w16 w17 w18 w19 w20 w21 w22 w23 w24 w25 w26 w27 w28 w29 w30:PV)
abbrev VSL(g8:Nat)(v4:PV)(w:WV):List PV:=[.ptr 5 1 0,.nils,.bool false,.ptr 8 g8 0,v4,.mapv 11 1,w.w6,w.w7,w.w8,w.w9,w.w10,w.w11,.bool false,w.w13,w.w14,w.w15,w.w16,w.w17,w.w18,w.w19,w.w20,w.w21,w.w22,w.w23,w.w24,w.w25,w.w26,w.w27,w.w28,w.w29,w.w30]
def LVr(v4:PV)(x:RX)(layer:List O0):Prop:=v4=.slc (layer.map GP)∨∃g10 g9,v4=.own 10 g10 1 1 0 1∧x.c10=(g10,.arr 1 0 false [.ptr 9 g9 0])∧x.c9=(g9,.var [.slc [NQ stN],.lit (.pointer none),.int .u8 0])∧layer=[[([stN],0)]]
structure RLs where
 (s:I4)
 (F:FT)
 (v7:Nat)
 (layer:List O0)
 (d:Nat)
 (x:RX)
 (v4:PV)
 (w:WV)
structure a5x(t:j9)(s:I4)(F:FT)(layer:List O0)(d:Nat):Prop where
 hs:HSI t s
 sr:SrI t s.1 F fun n=>∃g∈layer,n∈gn g
 ok:∀g∈layer,GOk t s.1 F d g∧(gn g).length≤K9 F
 len:layer.length≤K9 F
 dep:layer≠ []→d+1≤K9 F
theorem a5x.root(ht:s5 t):a5x t ([⟨0,[]⟩],[none]) a4d [[([stN],0)]] 0:=by refine⟨HSI.root ht,SrI.root.mono fun n _ e=>.inl ⟨_,F7.2 rfl,by rw[e];exact F7.2 rfl⟩,fun g hg=>?_,m0 _,fun _=>m0 _⟩;rw[F7]at hg;subst hg;refine⟨⟨rfl,fun n hn=>?_⟩,m0 _⟩;have hn:n∈[stN]:=hn;rw[F7]at hn;subst hn;exact⟨⟨[],[],⟨0,[]⟩,⟨0,[]⟩,rfl,rfl,⟨rfl,rfl⟩,⟨rfl,rfl⟩,rfl⟩,(SrI.root (t:=t)).rt⟩
structure RGp where
 (k:Nat)
 (s:I4)
 (F:FT)
 (v7:Nat)
 (next:List O0)
 (x:RX)
 (w:WV)
structure GrI(t:j9)(layer:List O0)(d c0 k:Nat)(s:I4)(F:FT)(next:List O0):Prop where
 hs:HSI t s
 ci:CI t s.1 (fun n=>∃g∈layer.drop k,n∈gn g) [] d c0 F next 0
 ok:∀g∈layer.drop k,GOk t s.1 F d g∧(gn g).length≤K9 F
theorem a5x.enter{s:I4}{F:FT}{layer:List O0}{d:Nat}(h:a5x t s F layer d):GrI t layer d (K9 F) 0 s F []:=
 ⟨h.hs,⟨h.sr.mono fun n _ hp=>.inl (.inl (by grind)),fun c hc=>absurd hc (a6E _),fun g hg=>(by cases hg),m0 _⟩,fun g hg=>h.ok g (by grind)⟩
theorem CI.start{Hs Hs':List Hf}{Q:Nd→Prop}{B B':BM}{d c0:Nat}{F:FT}{next:List O0}(hp:Hs<+:Hs')(h:CI t Hs Q B d c0 F next 0):CI t Hs' Q B' d c0 F next 0:=
 ⟨h.sr.pre hp,fun c hc=>absurd hc (a6E _),fun g hg=>⟨(h.nx g hg).1.mono hp fun _ _ x=>x,(h.nx g hg).2⟩,h.ct⟩
def BSQ(B:BM):List PV:=B.map fun e=>.slc (e.2.map NQ)
@[simp] theorem d0p(B:BM):(BVQ B).map M1=BSQ B:=by unfold BVQ BSQ;rw[a1f];exact L9 fun _ _=>rfl
@[simp ↓] theorem c9T(B:BM):(BVQ B).all mvS=true:=A8.2 fun x hx=>by obtain⟨e,_,rfl⟩:=E9.1 hx;rfl
@[simp] theorem d2y(B:BM):(BSQ B).length=B.length:=by simp[BSQ]
theorem b9l{B:BM}{c:UInt8}{i:Nat}(hx:(B.map (·.1)).idxOf? c=some i):∃hi:i<B.length,(BSQ B)[i]'(by simpa using hi)=.slc ((C7 B c).map NQ):=by obtain⟨hi,h1,_⟩:=a8z (l:=stN) hx;refine⟨hi,?_⟩;simp[BSQ,h1]
structure RFo where
 (j:Nat)
 (s:I4)
 (v7:Nat)
 (B:BM)
 (x:RX)
 (w8 w21:PV)
structure RCl where
 (c:Nat)
 (F:FT)
 (next:List O0)
 (x:RX)
 (w6 w9 w10 w11 w23 w24 w25 w26 w27 w28 w29 w30:PV)
structure RNo where
 (j:Nat)
 (F:FT)
 (nodes:List Nd)
 (x:RX)
 (tvn w11 w27 w28 w29:PV)
theorem c3C(t:j9)(ht:s5 t)(hsm:Sm t)(x:RX)(h24:x.c24.2=.dead)(h11:x.K4=dd):∃r ws,ShR t x r (m6 (SH t ([],[]) [] 0 x) ws)∧FI Tryz.prog (.fn (.func 53) [] []) [.ptr 5 1 0] (SH t ([],[]) [] 0 x) r ws:=by
 refine a7A (φ:=fun r h=>ShR t x r h) mixed (X:=X53) c53 (by rfl) (first:=[]) (cap:=[]) (args:=[.ptr 5 1 0]) (h0:=SH t ([],[]) [] 0 x) (by simp[X53]) k7 (by kernel_rfl) fun Q hR hN=>?_;by_cases hlv:Live t start
 . obtain⟨w1,x1,hg1,hu1,_,hx1⟩:=b2b t ([],[]) [] 0 x ⟨0,[]⟩ k7 rfl;have e1:S3 ([],[]) ⟨0,[]⟩=(0,([⟨0,[]⟩],[none])):=rfl;rw[e1]at hg1 hu1;obtain⟨w2,x2,hg2,hu2,_,hx2⟩:=b2b t ([⟨0,[]⟩],[none]) [] 0 x1 ⟨0,[]⟩ k7 rfl;have e2:S3 ([⟨0,[]⟩],[none]) ⟨0,[]⟩=(0,([⟨0,[]⟩],[none])):=rfl;rw[e2]at hg2 hu2;obtain⟨w3,x3,hg3,hu3,hx3⟩:=b3L t ([⟨0,[]⟩],[none]) [] 0 {x2 with c8:=(x2.c8.1+1,.var [IN 0,IN 0,IN 0,St []])} ⟨0,0,⟨0,[]⟩⟩ k7;simp[X53,SH,hlv];refine a2Q (hg1 x rfl rfl rfl) hu1 rfl ?_;simp;refine a2Q (hg2 x1 rfl rfl rfl) hu2 rfl ?_;simp[SH];refine a2Q hg3 hu3 rfl ?_;have hF0:(Y0 [] ⟨0,0,⟨0,[]⟩⟩).2=a4d:=rfl;rw[hF0];have hx3':=hx3;simp[a0g,RX.l]at hx3';have k1:Kp x x1:=⟨by have:=congrArg (fun z:RX=>z.l.take 3) hx1;exact this,by have:=congrArg (fun z:RX=>z.c24.2) hx1;exact Eq.trans this h24⟩
   have k2:Kp x x2:=⟨by have:=congrArg (fun z:RX=>z.l.take 3) hx2;exact Eq.trans this k1.a,by have:=congrArg (fun z:RX=>z.c24.2) hx2;exact Eq.trans this k1.d⟩
   have q11:x3.K4=dd:=(by grind);have k3:Kp x x3:=Kp.of (y:={x2 with c8:=(x2.c8.1+1,.var [IN 0,IN 0,IN 0,St []])}) ⟨k2.a,k2.d⟩ hx3;simp[SH,hx3'.2.2.2.1,q11];refine E3 (fun(y:RLs) vs h=>a5x t y.s y.F y.layer y.d∧Kp x y.x∧LVr y.v4 y.x y.layer∧(∃ks vs,y.x.K4=(1,.mp false ks vs))∧vs=VSL (x2.c8.1+1) y.v4 y.w∧h=SH t y.s y.F y.v7 y.x) (fun y=>2*(260128513-K9 y.F)+(if y.layer=[]then 0 else 1))
    ⟨([⟨0,[]⟩],[none]),a4d,0,[[([stN],0)]],0,{x3 with c8:=(x2.c8.1+1,.var [IN 0,IN 0,IN 0,St []]),c9:=(x3.c9.1+1,.var [.slc [NQ stN],.lit (.pointer none),.int .u8 0]),c10:=(x3.c10.1+1,.arr 1 0 false [.ptr 9 (x3.c9.1+1) 0]),K4:=(1,.mp false [] [])},.own 10 (x3.c10.1+1) 1 1 0 1,⟨_,_,_,_,_,_,_,_,_,_,_,_,_,_,_,_,_,_,_,_,_,_,_,_⟩⟩
    ⟨a5x.root ht,⟨k3.a,k3.d⟩,.inr ⟨_,_,rfl,rfl,rfl,rfl⟩,⟨[],[],rfl⟩,rfl,rfl⟩ ?_
   clear hx3 hx3' k1 k2 k3 q11 hg1 hg2 hg3 hu1 hu2 hu3 hx1 hx2 e1 e2;obtain⟨g8,hg8⟩:=p8 (x2.c8.1+1);rw[←hg8];rintro⟨s,F,v7,layer,d,x4,v4,⟨w6,w7,w8,w9,w10,w11,w13,w14,w15,w16,w17,w18,w19,w20,w21,w22,w23,w24,w25,w26,w27,w28,w29,w30⟩⟩ vs h ⟨y1,y2,y3,⟨ks,vs11,y4⟩,rfl,rfl⟩ Q2 hK2 hX2 hR2;dsimp only at y1 y2 y3 y4;have hcnt:K9 F≤260128512:=a6w y1.sr.cnt (a4k ht hsm y1.hs.nd y1.hs.hb);by_cases hL:layer=[]
   . subst hL;have h4:v4=.slc []:=by
      rcases y3 with y3|⟨_,_,_,_,_,y3⟩
      . exact y3
      . cases y3
     subst h4;have h2:¬Two t:=(y1.sr.mono fun n _ ⟨g,hg,_⟩=>by cases hg).fin ht;simp[SH];refine hX2 _ _ _ ?_;simp;refine hR _ _ _ ⟨.inl ⟨rfl,h2⟩,?_⟩ rfl ?_
     . have:=y2.a;exact this
     simp[T7,X53,a3d]
   . have hLl:0<layer.length:=a2k.2 hL;rcases y3 with rfl|⟨g10,g9,rfl,h10,h9,hlay⟩
     . simp[SH,hLl];refine E3 (fun(y:RGp) vs h=>GrI t layer d (K9 F) y.k y.s y.F y.next∧y.k≤layer.length∧Kp x y.x∧(∃ks vs,y.x.K4=(1,.mp false ks vs))∧OV 19 1 .nils y.w.w6 y.x.c19 (y.next.map GP)∧True∧
        vs=VSL g8 (.slc (layer.map GP)) {y.w with w13:=.bool true,w14:=.slc (layer.map GP),w15:=IN layer.length,w16:=IN y.k}∧h=SH t y.s y.F y.v7 y.x) (fun y=>layer.length-y.k)
        ⟨0,s,F,v7,[],x4,⟨_,_,_,_,_,_,.uu,.uu,.uu,.uu,_,_,_,_,_,_,_,_,_,_,_,_,_,_⟩⟩ ⟨y1.enter,C9 _,y2,⟨ks,vs11,y4⟩,.inl ⟨rfl,rfl⟩,trivial,rfl,rfl⟩ ?_
       rintro⟨k,s1,F1,v71,next,x5,⟨w6,w7,w8,w9,w10,w11,w13,w14,w15,w16,w17,w18,w19,w20,w21,w22,w23,w24,w25,w26,w27,w28,w29,w30⟩⟩ vs h ⟨z1,z2,z3,⟨ks,vs11,z4⟩,z5,z6,rfl,rfl⟩ Q3 hK3 hX3 hR3;dsimp only at z1 z2 z3 z4 z5 z6;have hc1:K9 F1≤260128512:=a6w z1.ci.sr.cnt (a4k ht hsm z1.hs.nd z1.hs.hb);have hlc:=y1.len;have hdd:=y1.dep hL;by_cases hk:k<layer.length
       . have hwk:=wk1 k i9;have hdr:layer.drop k=layer[k]::layer.drop (k+1):=b4M hk;obtain⟨hgo,hgl⟩:=z1.ok layer[k] (by grind);obtain⟨ns,cc,gr,hgk⟩:∃ns cc gr,layer[k]=(ns,cc)::gr:=by
          cases hX:layer[k]with
          |nil=>rw[hX]at hgo;cases hgo.1
          |cons a gr=>exact⟨a.1,a.2,gr,rfl⟩
         rw[hgk]at hgo hgl;obtain⟨g,hg⟩:∃g,g=(ns,cc)::gr:=⟨_,rfl⟩
         rw[←hg]at hgo hgl;have hgns:gn g=ns:=(by rw[hg];rfl);rw[hgns]at hgl;have hns:∀n∈ns,NS t s1.1 (W8 g) n:=fun n hn=>(hgo.2 n (by grind)).1;have hdw:(W8 g).length=d:=(by rw[a9h,hgo.1];rfl);have hGP:GP g=.fptr [.slc (ns.map NQ),GP gr,.int .u8 cc.toNat]:=(by rw[hg];rfl);have hgne:g≠ []:=(by rw[hg];simp);have hec:l6 (GP g)=[GP g]:=(by rw[hGP];rfl);have hon:one (GP g)=true:=(by rw[hGP];rfl);simp[SH,hk,hgk,z4];refine E3 (fun(y:RFo) vs h=>y.j≤ns.length∧FoI t s1 y.s (W8 g) y.B ns y.j∧Kp x y.x∧y.x.K4=BR y.B∧OV 19 1 .nils w6 y.x.c19 (next.map GP)∧
          vs=VSL g8 (.slc (layer.map GP)) ⟨w6,GP g,y.w8,w9,w10,w11,.bool true,.slc (layer.map GP),IN layer.length,IN k,.bool true,.slc (ns.map NQ),IN ns.length,IN y.j,y.w21,w22,w23,w24,w25,w26,w27,w28,w29,w30⟩∧h=SH t y.s F1 y.v7 y.x) (fun y=>ns.length-y.j)
          ⟨0,s1,v71,[],{x5 with K4:=(1,.mp false [] [])},w8,w21⟩ ⟨C9 _,FoI.start z1.hs _ _,⟨z3.a,z3.d⟩,rfl,z5,by rw[←hGP];rfl,rfl⟩ ?_
         rintro⟨j,s2,v72,B,x6,w8,w21⟩ vs h ⟨a1,a2,a3,a4,a5,rfl,rfl⟩ Q4 hK4 hX4 hR4;dsimp only at a1 a2 a3 a4 a5;by_cases hj:j<ns.length
         . have hwj:=wk1 j i9;have hn:=(hns _ (B7 hj)).mono a2.pre;have hll:=hn.c0p ht;obtain⟨n,hnE⟩:=p8 (ns[j]);have hfn:=a2.next ht hsm hns hj;rw[←hnE]at hn hll hfn;obtain⟨wsf,x7,v73,hff,huf,h11f,hlof,h24f⟩:=b5g t ht hsm s2 a2.hs F1 v72 {x6 with c12:=(x6.c12.1+1,.var [IN n.a,IN n.b,IN n.l.s,St n.l.x])} n (W8 g) hn B (a2.bd.up i9) a4 a3.d i9;have hlo2:=hlof;simp[RX.l]at hlo2;simp[SH,hj,←hnE];refine a2Q hff huf rfl ?_;simp[hwj];exact hK4 ⟨j+1,_,v73,_,x7,_,_⟩ _ _ (by grind) ⟨m7,hfn,Kp.of2 (y:={x6 with c12:=(x6.c12.1+1,.var [IN n.a,IN n.b,IN n.l.s,St n.l.x])}) ⟨a3.a,a3.d⟩ hlof h24f,h11f,by dsimp only;rw[hlo2.2.2.2.2.2.2.2.2.2.2.2.2.2];exact a5,rfl,rfl⟩
         . obtain rfl:j=ns.length:=i9;have hfol:=a2.fol;rw[J7]at hfol;simp[SH];refine hX4 _ _ _ ?_;simp[SH,a4];refine E3 (fun(y:RCl) vs h=>y.c≤63∧CI t s2.1 (fun n=>∃g∈layer.drop k,n∈gn g) B d (K9 F) y.F y.next y.c∧Kp x y.x∧y.x.K4=(1,.mp false (BKQ B) (BSQ B))∧OV 19 1 .nils y.w6 y.x.c19 (y.next.map GP)∧FLe F1 y.F∧K9 F1≤K9 y.F∧
            vs=VSL g8 (.slc (layer.map GP)) ⟨y.w6,GP g,w8,y.w9,y.w10,y.w11,.bool true,.slc (layer.map GP),IN layer.length,IN k,.bool true,.slc (ns.map NQ),IN ns.length,IN ns.length,.bool false,.int .u8 y.c,y.w23,y.w24,y.w25,y.w26,y.w27,y.w28,y.w29,y.w30⟩∧h=SH t s2 y.F v72 y.x) (fun y=>63-y.c)
            ⟨0,F1,next,{x6 with K4:=(1,.mp false (BKQ B) (BSQ B))},_,_,_,_,_,_,_,_,_,_,_,_⟩ ⟨C9 _,z1.ci.start a2.pre,⟨a3.a,a3.d⟩,rfl,a5,fun _ _ h=>h,m0 _,rfl,rfl⟩ ?_
           rintro⟨c,F2,next2,x7,w6,w9,w10,w11,w23,w24,w25,w26,w27,w28,w29,w30⟩ vs h ⟨b1,b2,b3,b4,b5,b6,b7,rfl,rfl⟩ Q5 hK5 hX5 hR5;dsimp only at b1 b2 b3 b4 b5 b6 b7;have hc2:K9 F2≤260128512:=a6w b2.sr.cnt (a4k ht hsm a2.hs.nd a2.hs.hb);have hct:=b2.ct;by_cases hc:c<63
           . obtain⟨cu,rfl⟩:∃cu:UInt8,c=cu.toNat:=⟨UInt8.ofNat c,(ofNat_toNat i9).symm⟩
             have hwc:IntKind.u8.wrap ((cu.toNat:Int)+1)=((cu.toNat+1:Nat):Int):=b1t i9 i9;cases hx:(B.map (·.1)).idxOf? cu with
             |none=>
              have hLn:C7 B cu=[]:=(a9G (l:=stN) hx).2;have hlv:=NI.leave hgo (by rw[hLn];exact b2.enter (W8 g) []);simp[SH,hc,hx,hwc,b4,hec,hon];refine E3 (fun(_:Unit) vs h=>vs=VSL g8 (.slc (layer.map GP)) ⟨w6,GP g,w8,.int .u8 cu.toNat,.ptr 13 (x7.J6.1+1) 0,w11,.bool true,.slc (layer.map GP),IN layer.length,IN k,.bool true,.slc (ns.map NQ),IN ns.length,IN ns.length,.bool false,.int .u8 cu.toNat,.bool true,.nils,IN 0,IN 0,w27,w28,w29,w30⟩∧h=SH t s2 F2 v72 {x7 with J6:=(x7.J6.1+1,.var [.nils,GP g,.int .u8 cu.toNat])}) (fun _=>0) () ?_ ?_
              . exact⟨rfl,by simp[SH,b4]⟩
              rintro _ vs h1 ⟨rfl,rfl⟩ Q6 hK6 hX6 hR6;simp[SH];refine hX6 _ _ _ ?_;simp[hwc];rw[if_pos rfl]at hlv;exact hK5 ⟨cu.toNat+1,F2,next2,{x7 with J6:=(x7.J6.1+1,.var [.nils,GP g,.int .u8 cu.toNat])},w6,_,_,_,_,_,_,_,_,_,_,_⟩ _ _ (by grind) ⟨m7,hlv,⟨b3.a,b3.d⟩,b4,b5,b6,b7,rfl,rfl⟩
             |some i=>
              obtain⟨hi,hBi⟩:=b9l hx;have hL0:(C7 B cu).length≤4096*ns.length:=by obtain⟨hi2,h1,_⟩:=a8z (l:=stN) hx;have h2:=(a2.bd _ (B7 hi2)).2;rw[h1]at h2;exact h2
              simp[SH,hc,hx,hi,hBi,b4,hec,hon];refine E3 (fun(y:RNo) vs h=>y.j≤(C7 B cu).length∧NI t s2.1 (fun n=>∃g∈layer.drop k,n∈gn g) B d (K9 F) next2 (W8 g) cu (C7 B cu) y.F y.nodes y.j∧FLe F1 y.F∧K9 F1≤K9 y.F∧Kp x y.x∧y.x.K4=(1,.mp false (BKQ B) (BSQ B))∧OV 19 1 .nils w6 y.x.c19 (next2.map GP)∧
               y.x.J6=(x7.J6.1+1,.var [y.tvn,GP g,.int .u8 cu.toNat])∧OV 17 4 .nils y.tvn y.x.c17 (y.nodes.map NQ)∧vs=VSL g8 (.slc (layer.map GP)) ⟨w6,GP g,w8,.int .u8 cu.toNat,.ptr 13 (x7.J6.1+1) 0,y.w11,.bool true,.slc (layer.map GP),IN layer.length,IN k,.bool true,.slc (ns.map NQ),IN ns.length,IN ns.length,.bool false,.int .u8 cu.toNat,.bool true,.slc ((C7 B cu).map NQ),IN (C7 B cu).length,IN y.j,y.w27,y.w28,y.w29,w30⟩∧h=SH t s2 y.F v72 y.x) (fun y=>(C7 B cu).length-y.j)
               ⟨0,F2,[],{x7 with J6:=(x7.J6.1+1,.var [.nils,GP g,.int .u8 cu.toNat])},.nils,w11,w27,w28,w29⟩ ?_ ?_
              . exact⟨C9 _,b2.enter _ _,b6,b7,⟨b3.a,b3.d⟩,b4,b5,rfl,.inl ⟨rfl,rfl⟩,rfl,by simp[SH,b4]⟩
              rintro⟨j,F3,nodes,x8,tvn,w11,w27,w28,w29⟩ vs h ⟨e1,e2,e3,e4,e5,e6,e7,e8,e9,rfl,rfl⟩ Q6 hK6 hX6 hR6;dsimp only at e1 e2 e3 e4 e5 e6 e7 e8 e9;have hc3:K9 F3≤260128512:=a6w e2.sr.cnt (a4k ht hsm a2.hs.nd a2.hs.hb);have hct3:=e2.ct;by_cases hj:j<(C7 B cu).length
              . have hwj:=wk1 j i9;obtain⟨m,hm⟩:=p8 ((C7 B cu)[j]);obtain⟨hmn,hab⟩:=a2.snd cu _ (B7 hj);rw[←hm]at hmn hab;obtain⟨wsr,x9,hrf,hru,hrl⟩:=b3L t s2 F3 v72 {x8 with c14:=(x8.c14.1+1,.var [IN m.a,IN m.b,IN m.l.s,St m.l.x])} m (fun e he=>(e2.sr.tw e he).1);have k9:Kp x x9:=Kp.of (y:={x8 with c14:=(x8.c14.1+1,.var [IN m.a,IN m.b,IN m.l.s,St m.l.x])}) ⟨e5.a,e5.d⟩ hrl;obtain⟨q11,q13,q14,q15,q17,q19⟩:=b0U hrl;dsimp only at q11 q13 q14 q15 q17 q19;rw[e6]at q11;rw[e8]at q13;rw[←q17]at e9;rw[←q19]at e7;simp[SH,hj,←hm];refine a2Q hrf hru rfl ?_;cases hrb:(Y0 F3 m).1 with
                |false=>
                 obtain⟨hF,hni⟩:=e2.skip hj (by grind);rw[←hm]at hF;rw[hF];simp[hwj,SH];exact hK6 ⟨j+1,F3,nodes,x9,tvn,_,_,_,_⟩ _ _ (by grind) ⟨m7,hni,e3,e4,k9,q11,e7,q13,e9,rfl,rfl⟩
                |true=>
                 obtain⟨u,v,ha,hb,n1,n2,_⟩:=id hmn;obtain⟨c,wsc,x10,hcc,hcf,hcu,hcl⟩:=b7J t s2 (Y0 F3 m).2 v72 x9 m ha hb n1 n2 (a2.hs.hb ha (C8 n1)).1 (a2.hs.hb hb (C8 n2)).1;have k10:Kp x x10:=Kp.of k9 hcl;obtain⟨r11,r13,r14,r15,r17,r19⟩:=b0U hcl;rw[q11]at r11;rw[q13]at r13;rw[←r17]at e9;rw[←r19]at e7;rw[q14]at r14;simp[SH,q14];refine a2Q hcf hcu (by simp[SH,q14]) ?_;cases c with
                 |true=>
                  have hcs:=c0j ((nodes,cu)::g) k7 (by simp only[Z3,hgo.1];omega);obtain⟨tx,ty,hx1,hy1,hne1⟩:=c0X ht hmn (hcc.1 rfl);rw[←hgo.word nodes cu]at hx1 hy1;have hWl:(W8 ((nodes,cu)::g)).length=d+1:=(by rw[a9h,Z3,hgo.1];rfl);rcases e9 with⟨rfl,e9⟩|⟨g17,rfl,e9,e9n⟩
                  . obtain rfl:=a5i.1 e9;rw[b5F,List.map_nil]at hcs;simp[SH,r13,r14];refine l7 hcs ?_;simp;refine hR6 _ _ ?_;simp;refine hR5 _ _ ?_;simp;refine hR3 _ _ ?_;simp;refine hR2 _ _ ?_;simp;refine hR _ _ _ ⟨.inr ⟨_,_,rfl,rfl,i9,tx,ty,hx1,hy1,hne1⟩,k10.a⟩ rfl ?_;simp[T7,X53,a3d]
                  . simp[SH,r13,r14,e9];refine l7 hcs ?_;simp;refine hR6 _ _ ?_;simp;refine hR5 _ _ ?_;simp;refine hR3 _ _ ?_;simp;refine hR2 _ _ ?_;simp;refine hR _ _ _ ⟨.inr ⟨_,_,rfl,rfl,i9,tx,ty,hx1,hy1,hne1⟩,k10.a⟩ rfl ?_;simp[T7,X53,a3d]
                 |false=>
                  have hadd:=e2.add hj (by grind) (by grind) (by grind);rw[←hm]at hadd;rcases e9 with⟨rfl,e9⟩|⟨g17,rfl,e9,e9n⟩
                  . obtain rfl:=a5i.1 e9;simp[SH,r13,r14,hwj];exact hK6 ⟨j+1,(Y0 F3 m).2,[m],{x10 with J6:=(x7.J6.1+1,.var [.own 17 (x10.c17.1+1) 1 4 0 1,GP g,.int .u8 cu.toNat]),c14:=(x8.c14.1+1,.var [IN m.a,IN m.b,IN m.l.s,St m.l.x]),c16:=(x10.c16.1+1,.dead),c17:=(x10.c17.1+1,.arr 4 0 false [NQ m])},.own 17 (x10.c17.1+1) 1 4 0 1,_,_,_,_⟩ _ _ (by grind) ⟨m7,hadd,fun a b h=>FLe.rec _ _ a b (e3 a b h),S7 e4 (b0x _ _),⟨k10.a,k10.d⟩,r11,e7,rfl,.inr ⟨_,rfl,rfl,k7⟩,rfl,rfl⟩
                  . obtain⟨nodes2,hn2⟩:=p8 (nodes++[m]);have f1:nodes.map NQ++[NQ m]=nodes2.map NQ:=(by grind);have f2:nodes.length+1=nodes2.length:=(by rw[hn2];simp);have f3:nodes2.length*40≤140737488355328:=i9;have f4:nodes2≠ []:=(by rw[hn2];simp);rw[←hn2]at hadd;simp[SH,r13,r14,e9,hwj,f1,f2,f3];exact hK6 ⟨j+1,(Y0 F3 m).2,nodes2,{x10 with J6:=(x7.J6.1+1,.var [.own 17 g17 nodes2.length 4 0 nodes2.length,GP g,.int .u8 cu.toNat]),c14:=(x8.c14.1+1,.var [IN m.a,IN m.b,IN m.l.s,St m.l.x]),c16:=(x10.c16.1+1,.dead),c17:=(g17,.arr 4 0 false (nodes2.map NQ))},.own 17 g17 nodes2.length 4 0 nodes2.length,_,_,_,_⟩ _ _ (by grind) ⟨m7,hadd,fun a b h=>FLe.rec _ _ a b (e3 a b h),S7 e4 (b0x _ _),⟨k10.a,k10.d⟩,r11,e7,rfl,.inr ⟨g17,by rw[I8],rfl,by simp[f4]⟩,rfl,rfl⟩
              . obtain rfl:j=(C7 B cu).length:=i9;have hlv:=NI.leave hgo e2;simp[SH];refine hX6 _ _ _ ?_;rcases e9 with⟨rfl,e9⟩|⟨g17,rfl,e9,e9n⟩
                . obtain rfl:=a5i.1 e9;rw[if_pos rfl]at hlv;simp[e8,hwc];exact hK5 ⟨cu.toNat+1,F3,next2,{x8 with J6:=(x7.J6.1+1,.var [.nils,GP g,.int .u8 cu.toNat])},w6,_,_,_,_,_,_,_,_,_,_,_⟩ _ _ (by grind) ⟨m7,hlv,⟨e5.a,e5.d⟩,e6,e7,e3,e4,rfl,rfl⟩
                . have hnn:nodes≠ []:=fun h=>e9n (by rw[h];rfl);have hnl:0<nodes.length:=a2k.2 hnn;rw[if_neg hnn]at hlv;subst hg;rcases e7 with⟨rfl,e7⟩|⟨g19,rfl,e7,e7n⟩
                  . obtain rfl:=a5i.1 e7;simp[e8,e9,hwc,hnl];exact hK5 ⟨cu.toNat+1,F3,[(nodes,cu)::(ns,cc)::gr],{x8 with J6:=(x7.J6.1+1,.dead),c17:=(g17,.arr 4 1 true (nodes.map NQ)),c18:=(x8.c18.1+1,.dead),c19:=(x8.c19.1+1,.arr 1 0 false [GP ((nodes,cu)::(ns,cc)::gr)])},.own 19 (x8.c19.1+1) 1 1 0 1,_,_,_,_,_,_,_,_,_,_,_⟩ _ _ (by grind) ⟨m7,hlv,⟨e5.a,e5.d⟩,e6,.inr ⟨_,rfl,rfl,k7⟩,e3,e4,rfl,rfl⟩
                  . obtain⟨nx,hnx⟩:∃nx,nx=next2++[(nodes,cu)::(ns,cc)::gr]:=⟨_,rfl⟩
                    have f1:next2.map GP++[.fptr [.slc (nodes.map NQ),.fptr [.slc (ns.map NQ),GP gr,.int .u8 cc.toNat],.int .u8 cu.toNat]]=nx.map GP:=(by rw[hnx,S8];rfl);have f2:next2.length+1=nx.length:=(by rw[hnx];simp);have f3:nx.length*8≤140737488355328:=i9;have f4:nx≠ []:=(by rw[hnx];simp);rw[←hnx]at hlv;simp[e8,e9,e7,hwc,hnl,f1,f2,f3];exact hK5 ⟨cu.toNat+1,F3,nx,{x8 with J6:=(x7.J6.1+1,.dead),c17:=(g17,.arr 4 1 true (nodes.map NQ)),c18:=(x8.c18.1+1,.dead),c19:=(g19,.arr 1 0 false (nx.map GP))},.own 19 g19 nx.length 1 0 nx.length,_,_,_,_,_,_,_,_,_,_,_⟩ _ _ (by grind) ⟨m7,hlv,⟨e5.a,e5.d⟩,e6,.inr ⟨g19,by rw[I8],rfl,by simp[f4]⟩,e3,e4,rfl,rfl⟩
           . obtain rfl:c=63:=i9;have hdn:=b2.done ht a2.hs (ns:=ns) hfol (Q':=fun n=>∃g∈layer.drop (k+1),n∈gn g) fun n ⟨g',h1,h2⟩=>by
              rw[hdr]at h1;rcases Z5.1 h1 with h1|h1
              . rw[h1,hgk]at h2;exact .inr h2
              . exact .inl ⟨g',h1,h2⟩
             simp[SH];refine hX5 _ _ _ ?_;simp[hwk];exact hK3 ⟨k+1,s2,F2,v72,next2,x7,⟨w6,_,_,_,_,_,.uu,.uu,.uu,.uu,_,_,_,_,_,_,_,_,_,_,_,_,_,_⟩⟩ _ _ (by grind) ⟨⟨a2.hs,hdn.start (a5h _),fun g' hg'=>⟨(z1.ok g' (by grind)).1.mono a2.pre b6,S7 (z1.ok g' (by grind)).2 b7⟩⟩,m7,b3,⟨_,_,b4⟩,b5,trivial,rfl,rfl⟩
       . obtain rfl:k=layer.length:=i9;have hct1:=z1.ci.ct;simp[SH];refine hX3 _ _ _ ?_;have hly:a5x t s1 F1 next (d+1):=⟨z1.hs,z1.ci.sr.mono fun n _ hp=>.inl (hp.elim (fun⟨g,hg,_⟩=>by simp at hg) id),z1.ci.nx,i9,fun hne=>by have:=a2k.2 hne;omega⟩
         rcases z5 with⟨rfl,z5⟩|⟨g19,rfl,z5,z5n⟩
         . obtain rfl:=a5i.1 z5;simp[-a0q];exact hK2 ⟨s1,F1,v71,[],d+1,{x5 with c19:=(x5.c19.1,a0q (SH t s1 F1 v71 x5) true x5.c19.2)},.slc [],⟨_,_,_,_,_,_,_,_,_,_,_,_,_,_,_,_,_,_,_,_,_,_,_,_⟩⟩ _ _ (by grind) ⟨hly,⟨z3.a,z3.d⟩,.inl rfl,⟨_,_,z4⟩,rfl,rfl⟩
         . have hnn:next≠ []:=fun h=>z5n (by rw[h];rfl)
           have hnl:0<next.length:=a2k.2 hnn
           simp[z5];exact hK2 ⟨s1,F1,v71,next,d+1,{x5 with c19:=(g19,.arr 1 1 true (next.map GP))},.slc (next.map GP),⟨_,_,_,_,_,_,_,_,_,_,_,_,_,_,_,_,_,_,_,_,_,_,_,_⟩⟩ _ _ (by grind) ⟨hly,⟨z3.a,z3.d⟩,.inl rfl,⟨_,_,z4⟩,rfl,rfl⟩
     . simp[SH,h10];have hl1:layer.length=1:=(by rw[hlay];rfl);refine E3 (fun(y:RGp) vs h=>GrI t layer d (K9 F) y.k y.s y.F y.next∧y.k≤layer.length∧Kp x y.x∧(∃ks vs,y.x.K4=(1,.mp false ks vs))∧OV 19 1 .nils y.w.w6 y.x.c19 (y.next.map GP)∧(y.k=0→y.x.c10=(g10,.arr 1 0 false [.ptr 9 g9 0])∧y.x.c9=(g9,.var [.slc [NQ stN],.lit (.pointer none),.int .u8 0]))∧
        vs=VSL g8 (.own 10 g10 1 1 0 1) {y.w with w13:=.bool true,w14:=.own 10 g10 1 1 0 1,w15:=IN 1,w16:=IN y.k}∧h=SH t y.s y.F y.v7 y.x) (fun y=>layer.length-y.k)
        ⟨0,s,F,v7,[],x4,⟨_,_,_,_,_,_,.uu,.uu,.uu,.uu,_,_,_,_,_,_,_,_,_,_,_,_,_,_⟩⟩ ⟨y1.enter,C9 _,y2,⟨ks,vs11,y4⟩,.inl ⟨rfl,rfl⟩,fun _=>⟨h10,h9⟩,rfl,by dsimp only[SH];rw[h10]⟩ ?_
       rintro⟨k,s1,F1,v71,next,x5,⟨w6,w7,w8,w9,w10,w11,w13,w14,w15,w16,w17,w18,w19,w20,w21,w22,w23,w24,w25,w26,w27,w28,w29,w30⟩⟩ vs h ⟨z1,z2,z3,⟨ks,vs11,z4⟩,z5,z6,rfl,rfl⟩ Q3 hK3 hX3 hR3;dsimp only at z1 z2 z3 z4 z5 z6;have hc1:K9 F1≤260128512:=a6w z1.ci.sr.cnt (a4k ht hsm z1.hs.nd z1.hs.hb);have hlc:=y1.len;have hdd:=y1.dep hL;by_cases hk:k<layer.length
       . have hwk:=wk1 k i9;have hdr:layer.drop k=layer[k]::layer.drop (k+1):=b4M hk;obtain⟨hgo,hgl⟩:=z1.ok layer[k] (by grind);obtain⟨ns,cc,gr,hgk⟩:∃ns cc gr,layer[k]=(ns,cc)::gr:=(by grind);rw[hgk]at hgo hgl;obtain⟨g,hg⟩:∃g,g=(ns,cc)::gr:=⟨_,rfl⟩
         rw[←hg]at hgo hgl;have hgns:gn g=ns:=(by rw[hg];rfl);rw[hgns]at hgl;have hns:∀n∈ns,NS t s1.1 (W8 g) n:=fun n hn=>(hgo.2 n (by grind)).1;have hdw:(W8 g).length=d:=(by rw[a9h,hgo.1];rfl);have hGP:GP g=.fptr [.slc (ns.map NQ),GP gr,.int .u8 cc.toNat]:=(by rw[hg];rfl);have hgne:g≠ []:=(by rw[hg];simp);have hec:l6 (GP g)=[GP g]:=(by rw[hGP];rfl);have hon:one (GP g)=true:=(by rw[hGP];rfl);have hk0:k=0:=i9;obtain⟨z10,z9⟩:=z6 hk0;obtain⟨hn1,hc0,hg0⟩:ns=[stN]∧cc=0∧gr=[]:=(by grind);have hGP':GP g=.fptr [.slc (ns.map NQ),.lit (.pointer none),.int .u8 cc.toNat]:=(by rw[hGP,hg0];rfl);have z9':x5.c9=(g9,.var [.slc (ns.map NQ),.lit (.pointer none),.int .u8 cc.toNat]):=(by rw[z9,hn1,hc0];rfl);simp[SH,hk0,z10,z9',z4];refine E3 (fun(y:RFo) vs h=>y.j≤ns.length∧FoI t s1 y.s (W8 g) y.B ns y.j∧Kp x y.x∧y.x.K4=BR y.B∧OV 19 1 .nils w6 y.x.c19 (next.map GP)∧
          vs=VSL g8 (.own 10 g10 1 1 0 1) ⟨w6,GP g,y.w8,w9,w10,w11,.bool true,.own 10 g10 1 1 0 1,IN 1,IN k,.bool true,.slc (ns.map NQ),IN ns.length,IN y.j,y.w21,w22,w23,w24,w25,w26,w27,w28,w29,w30⟩∧h=SH t y.s F1 y.v7 y.x) (fun y=>ns.length-y.j)
          ⟨0,s1,v71,[],{x5 with c9:=(g9,.dead),c10:=(g10,.arr 1 0 false [.ptr 9 g9 0]),K4:=(1,.mp false [] [])},w8,w21⟩ ⟨C9 _,FoI.start z1.hs _ _,⟨z3.a,z3.d⟩,rfl,z5,by rw[←hGP',hk0];rfl,rfl⟩ ?_
         rintro⟨j,s2,v72,B,x6,w8,w21⟩ vs h ⟨a1,a2,a3,a4,a5,rfl,rfl⟩ Q4 hK4 hX4 hR4;dsimp only at a1 a2 a3 a4 a5;by_cases hj:j<ns.length
         . have hwj:=wk1 j i9;have hn:=(hns _ (B7 hj)).mono a2.pre;have hll:=hn.c0p ht;obtain⟨n,hnE⟩:=p8 (ns[j]);have hfn:=a2.next ht hsm hns hj;rw[←hnE]at hn hll hfn;obtain⟨wsf,x7,v73,hff,huf,h11f,hlof,h24f⟩:=b5g t ht hsm s2 a2.hs F1 v72 {x6 with c12:=(x6.c12.1+1,.var [IN n.a,IN n.b,IN n.l.s,St n.l.x])} n (W8 g) hn B (a2.bd.up i9) a4 a3.d i9;have hlo2:=hlof;simp[RX.l]at hlo2;simp[SH,hj,←hnE];refine a2Q hff huf rfl ?_;simp[hwj];exact hK4 ⟨j+1,_,v73,_,x7,_,_⟩ _ _ (by grind) ⟨m7,hfn,Kp.of2 (y:={x6 with c12:=(x6.c12.1+1,.var [IN n.a,IN n.b,IN n.l.s,St n.l.x])}) ⟨a3.a,a3.d⟩ hlof h24f,h11f,by dsimp only;rw[hlo2.2.2.2.2.2.2.2.2.2.2.2.2.2];exact a5,rfl,rfl⟩
         . obtain rfl:j=ns.length:=i9;have hfol:=a2.fol;rw[J7]at hfol;simp[SH];refine hX4 _ _ _ ?_;simp[SH,a4];refine E3 (fun(y:RCl) vs h=>y.c≤63∧CI t s2.1 (fun n=>∃g∈layer.drop k,n∈gn g) B d (K9 F) y.F y.next y.c∧Kp x y.x∧y.x.K4=(1,.mp false (BKQ B) (BSQ B))∧OV 19 1 .nils y.w6 y.x.c19 (y.next.map GP)∧FLe F1 y.F∧K9 F1≤K9 y.F∧
            vs=VSL g8 (.own 10 g10 1 1 0 1) ⟨y.w6,GP g,w8,y.w9,y.w10,y.w11,.bool true,.own 10 g10 1 1 0 1,IN 1,IN k,.bool true,.slc (ns.map NQ),IN ns.length,IN ns.length,.bool false,.int .u8 y.c,y.w23,y.w24,y.w25,y.w26,y.w27,y.w28,y.w29,y.w30⟩∧h=SH t s2 y.F v72 y.x) (fun y=>63-y.c)
            ⟨0,F1,next,{x6 with K4:=(1,.mp false (BKQ B) (BSQ B))},_,_,_,_,_,_,_,_,_,_,_,_⟩ ⟨C9 _,z1.ci.start a2.pre,⟨a3.a,a3.d⟩,rfl,a5,fun _ _ h=>h,m0 _,rfl,rfl⟩ ?_
           rintro⟨c,F2,next2,x7,w6,w9,w10,w11,w23,w24,w25,w26,w27,w28,w29,w30⟩ vs h ⟨b1,b2,b3,b4,b5,b6,b7,rfl,rfl⟩ Q5 hK5 hX5 hR5;dsimp only at b1 b2 b3 b4 b5 b6 b7;have hc2:K9 F2≤260128512:=a6w b2.sr.cnt (a4k ht hsm a2.hs.nd a2.hs.hb);have hct:=b2.ct;by_cases hc:c<63
           . obtain⟨cu,rfl⟩:∃cu:UInt8,c=cu.toNat:=⟨UInt8.ofNat c,(ofNat_toNat i9).symm⟩
             have hwc:IntKind.u8.wrap ((cu.toNat:Int)+1)=((cu.toNat+1:Nat):Int):=b1t i9 i9;cases hx:(B.map (·.1)).idxOf? cu with
             |none=>
              have hLn:C7 B cu=[]:=(a9G (l:=stN) hx).2;have hlv:=NI.leave hgo (by rw[hLn];exact b2.enter (W8 g) []);simp[SH,hc,hx,hwc,b4,hec,hon];refine E3 (fun(_:Unit) vs h=>vs=VSL g8 (.own 10 g10 1 1 0 1) ⟨w6,GP g,w8,.int .u8 cu.toNat,.ptr 13 (x7.J6.1+1) 0,w11,.bool true,.own 10 g10 1 1 0 1,IN 1,IN k,.bool true,.slc (ns.map NQ),IN ns.length,IN ns.length,.bool false,.int .u8 cu.toNat,.bool true,.nils,IN 0,IN 0,w27,w28,w29,w30⟩∧h=SH t s2 F2 v72 {x7 with J6:=(x7.J6.1+1,.var [.nils,GP g,.int .u8 cu.toNat])}) (fun _=>0) () ?_ ?_
              . exact⟨rfl,by simp[SH,b4]⟩
              rintro _ vs h1 ⟨rfl,rfl⟩ Q6 hK6 hX6 hR6;simp[SH];refine hX6 _ _ _ ?_;simp[hwc];rw[if_pos rfl]at hlv;exact hK5 ⟨cu.toNat+1,F2,next2,{x7 with J6:=(x7.J6.1+1,.var [.nils,GP g,.int .u8 cu.toNat])},w6,_,_,_,_,_,_,_,_,_,_,_⟩ _ _ (by grind) ⟨m7,hlv,⟨b3.a,b3.d⟩,b4,b5,b6,b7,rfl,rfl⟩
             |some i=>
              obtain⟨hi,hBi⟩:=b9l hx;have hL0:(C7 B cu).length≤4096*ns.length:=by obtain⟨hi2,h1,_⟩:=a8z (l:=stN) hx;have h2:=(a2.bd _ (B7 hi2)).2;rw[h1]at h2;exact h2
              simp[SH,hc,hx,hi,hBi,b4,hec,hon];refine E3 (fun(y:RNo) vs h=>y.j≤(C7 B cu).length∧NI t s2.1 (fun n=>∃g∈layer.drop k,n∈gn g) B d (K9 F) next2 (W8 g) cu (C7 B cu) y.F y.nodes y.j∧FLe F1 y.F∧K9 F1≤K9 y.F∧Kp x y.x∧y.x.K4=(1,.mp false (BKQ B) (BSQ B))∧OV 19 1 .nils w6 y.x.c19 (next2.map GP)∧
               y.x.J6=(x7.J6.1+1,.var [y.tvn,GP g,.int .u8 cu.toNat])∧OV 17 4 .nils y.tvn y.x.c17 (y.nodes.map NQ)∧vs=VSL g8 (.own 10 g10 1 1 0 1) ⟨w6,GP g,w8,.int .u8 cu.toNat,.ptr 13 (x7.J6.1+1) 0,y.w11,.bool true,.own 10 g10 1 1 0 1,IN 1,IN k,.bool true,.slc (ns.map NQ),IN ns.length,IN ns.length,.bool false,.int .u8 cu.toNat,.bool true,.slc ((C7 B cu).map NQ),IN (C7 B cu).length,IN y.j,y.w27,y.w28,y.w29,w30⟩∧h=SH t s2 y.F v72 y.x) (fun y=>(C7 B cu).length-y.j)
               ⟨0,F2,[],{x7 with J6:=(x7.J6.1+1,.var [.nils,GP g,.int .u8 cu.toNat])},.nils,w11,w27,w28,w29⟩ ?_ ?_
              . exact⟨C9 _,b2.enter _ _,b6,b7,⟨b3.a,b3.d⟩,b4,b5,rfl,.inl ⟨rfl,rfl⟩,rfl,by simp[SH,b4]⟩
              rintro⟨j,F3,nodes,x8,tvn,w11,w27,w28,w29⟩ vs h ⟨e1,e2,e3,e4,e5,e6,e7,e8,e9,rfl,rfl⟩ Q6 hK6 hX6 hR6;dsimp only at e1 e2 e3 e4 e5 e6 e7 e8 e9;have hc3:K9 F3≤260128512:=a6w e2.sr.cnt (a4k ht hsm a2.hs.nd a2.hs.hb);have hct3:=e2.ct;by_cases hj:j<(C7 B cu).length
              . have hwj:=wk1 j i9;obtain⟨m,hm⟩:=p8 ((C7 B cu)[j]);obtain⟨hmn,hab⟩:=a2.snd cu _ (B7 hj);rw[←hm]at hmn hab;obtain⟨wsr,x9,hrf,hru,hrl⟩:=b3L t s2 F3 v72 {x8 with c14:=(x8.c14.1+1,.var [IN m.a,IN m.b,IN m.l.s,St m.l.x])} m (fun e he=>(e2.sr.tw e he).1);have k9:Kp x x9:=Kp.of (y:={x8 with c14:=(x8.c14.1+1,.var [IN m.a,IN m.b,IN m.l.s,St m.l.x])}) ⟨e5.a,e5.d⟩ hrl;obtain⟨q11,q13,q14,q15,q17,q19⟩:=b0U hrl;dsimp only at q11 q13 q14 q15 q17 q19;rw[e6]at q11;rw[e8]at q13;rw[←q17]at e9;rw[←q19]at e7;simp[SH,hj,←hm];refine a2Q hrf hru rfl ?_;cases hrb:(Y0 F3 m).1 with
                |false=>
                 obtain⟨hF,hni⟩:=e2.skip hj (by grind);rw[←hm]at hF;rw[hF];simp[hwj,SH];exact hK6 ⟨j+1,F3,nodes,x9,tvn,_,_,_,_⟩ _ _ (by grind) ⟨m7,hni,e3,e4,k9,q11,e7,q13,e9,rfl,rfl⟩
                |true=>
                 obtain⟨u,v,ha,hb,n1,n2,_⟩:=id hmn;obtain⟨c,wsc,x10,hcc,hcf,hcu,hcl⟩:=b7J t s2 (Y0 F3 m).2 v72 x9 m ha hb n1 n2 (a2.hs.hb ha (C8 n1)).1 (a2.hs.hb hb (C8 n2)).1;have k10:Kp x x10:=Kp.of k9 hcl;obtain⟨r11,r13,r14,r15,r17,r19⟩:=b0U hcl;rw[q11]at r11;rw[q13]at r13;rw[←r17]at e9;rw[←r19]at e7;rw[q14]at r14;simp[SH,q14];refine a2Q hcf hcu (by simp[SH,q14]) ?_;cases c with
                 |true=>
                  have hcs:=c0j ((nodes,cu)::g) k7 (by grind);obtain⟨tx,ty,hx1,hy1,hne1⟩:=c0X ht hmn (hcc.1 rfl);rw[←hgo.word nodes cu]at hx1 hy1;have hWl:(W8 ((nodes,cu)::g)).length=d+1:=(by rw[a9h,Z3,hgo.1];rfl);rcases e9 with⟨rfl,e9⟩|⟨g17,rfl,e9,e9n⟩
                  . obtain rfl:=a5i.1 e9;rw[b5F,List.map_nil]at hcs;simp[SH,r13,r14];refine l7 hcs ?_;simp;refine hR6 _ _ ?_;simp;refine hR5 _ _ ?_;simp;refine hR3 _ _ ?_;simp;refine hR2 _ _ ?_;simp;refine hR _ _ _ ⟨.inr ⟨_,_,rfl,rfl,i9,tx,ty,hx1,hy1,hne1⟩,k10.a⟩ rfl ?_;simp[T7,X53,a3d]
                  . simp[SH,r13,r14,e9];refine l7 hcs ?_;simp;refine hR6 _ _ ?_;simp;refine hR5 _ _ ?_;simp;refine hR3 _ _ ?_;simp;refine hR2 _ _ ?_;simp;refine hR _ _ _ ⟨.inr ⟨_,_,rfl,rfl,i9,tx,ty,hx1,hy1,hne1⟩,k10.a⟩ rfl ?_;simp[T7,X53,a3d]
                 |false=>
                  have hadd:=e2.add hj (by grind) (by grind) (by grind);rw[←hm]at hadd;rcases e9 with⟨rfl,e9⟩|⟨g17,rfl,e9,e9n⟩
                  . obtain rfl:=a5i.1 e9;simp[SH,r13,r14,hwj];exact hK6 ⟨j+1,(Y0 F3 m).2,[m],{x10 with J6:=(x7.J6.1+1,.var [.own 17 (x10.c17.1+1) 1 4 0 1,GP g,.int .u8 cu.toNat]),c14:=(x8.c14.1+1,.var [IN m.a,IN m.b,IN m.l.s,St m.l.x]),c16:=(x10.c16.1+1,.dead),c17:=(x10.c17.1+1,.arr 4 0 false [NQ m])},.own 17 (x10.c17.1+1) 1 4 0 1,_,_,_,_⟩ _ _ (by grind) ⟨m7,hadd,fun a b h=>FLe.rec _ _ a b (e3 a b h),S7 e4 (b0x _ _),⟨k10.a,k10.d⟩,r11,e7,rfl,.inr ⟨_,rfl,rfl,k7⟩,rfl,rfl⟩
                  . obtain⟨nodes2,hn2⟩:=p8 (nodes++[m]);have f1:nodes.map NQ++[NQ m]=nodes2.map NQ:=(by grind);have f2:nodes.length+1=nodes2.length:=(by rw[hn2];simp);have f3:nodes2.length*40≤140737488355328:=i9;have f4:nodes2≠ []:=(by rw[hn2];simp);rw[←hn2]at hadd;simp[SH,r13,r14,e9,hwj,f1,f2,f3];exact hK6 ⟨j+1,(Y0 F3 m).2,nodes2,{x10 with J6:=(x7.J6.1+1,.var [.own 17 g17 nodes2.length 4 0 nodes2.length,GP g,.int .u8 cu.toNat]),c14:=(x8.c14.1+1,.var [IN m.a,IN m.b,IN m.l.s,St m.l.x]),c16:=(x10.c16.1+1,.dead),c17:=(g17,.arr 4 0 false (nodes2.map NQ))},.own 17 g17 nodes2.length 4 0 nodes2.length,_,_,_,_⟩ _ _ (by grind) ⟨m7,hadd,fun a b h=>FLe.rec _ _ a b (e3 a b h),S7 e4 (b0x _ _),⟨k10.a,k10.d⟩,r11,e7,rfl,.inr ⟨g17,by rw[I8],rfl,by simp[f4]⟩,rfl,rfl⟩
              . obtain rfl:j=(C7 B cu).length:=i9;have hlv:=NI.leave hgo e2;simp[SH];refine hX6 _ _ _ ?_;rcases e9 with⟨rfl,e9⟩|⟨g17,rfl,e9,e9n⟩
                . obtain rfl:=a5i.1 e9;rw[if_pos rfl]at hlv;simp[e8,hwc];exact hK5 ⟨cu.toNat+1,F3,next2,{x8 with J6:=(x7.J6.1+1,.var [.nils,GP g,.int .u8 cu.toNat])},w6,_,_,_,_,_,_,_,_,_,_,_⟩ _ _ (by grind) ⟨m7,hlv,⟨e5.a,e5.d⟩,e6,e7,e3,e4,rfl,rfl⟩
                . have hnn:nodes≠ []:=fun h=>e9n (by rw[h];rfl);have hnl:0<nodes.length:=a2k.2 hnn;rw[if_neg hnn]at hlv;subst hg;rcases e7 with⟨rfl,e7⟩|⟨g19,rfl,e7,e7n⟩
                  . obtain rfl:=a5i.1 e7;simp[e8,e9,hwc,hnl];exact hK5 ⟨cu.toNat+1,F3,[(nodes,cu)::(ns,cc)::gr],{x8 with J6:=(x7.J6.1+1,.dead),c17:=(g17,.arr 4 1 true (nodes.map NQ)),c18:=(x8.c18.1+1,.dead),c19:=(x8.c19.1+1,.arr 1 0 false [GP ((nodes,cu)::(ns,cc)::gr)])},.own 19 (x8.c19.1+1) 1 1 0 1,_,_,_,_,_,_,_,_,_,_,_⟩ _ _ (by grind) ⟨m7,hlv,⟨e5.a,e5.d⟩,e6,.inr ⟨_,rfl,rfl,k7⟩,e3,e4,rfl,rfl⟩
                  . obtain⟨nx,hnx⟩:∃nx,nx=next2++[(nodes,cu)::(ns,cc)::gr]:=⟨_,rfl⟩
                    have f1:next2.map GP++[.fptr [.slc (nodes.map NQ),.fptr [.slc (ns.map NQ),GP gr,.int .u8 cc.toNat],.int .u8 cu.toNat]]=nx.map GP:=(by rw[hnx,S8];rfl);have f2:next2.length+1=nx.length:=(by rw[hnx];simp);have f3:nx.length*8≤140737488355328:=i9;have f4:nx≠ []:=(by rw[hnx];simp);rw[←hnx]at hlv;simp[e8,e9,e7,hwc,hnl,f1,f2,f3];exact hK5 ⟨cu.toNat+1,F3,nx,{x8 with J6:=(x7.J6.1+1,.dead),c17:=(g17,.arr 4 1 true (nodes.map NQ)),c18:=(x8.c18.1+1,.dead),c19:=(g19,.arr 1 0 false (nx.map GP))},.own 19 g19 nx.length 1 0 nx.length,_,_,_,_,_,_,_,_,_,_,_⟩ _ _ (by grind) ⟨m7,hlv,⟨e5.a,e5.d⟩,e6,.inr ⟨g19,by rw[I8],rfl,by simp[f4]⟩,e3,e4,rfl,rfl⟩
           . obtain rfl:c=63:=i9;have hdn:=b2.done ht a2.hs (ns:=ns) hfol (Q':=fun n=>∃g∈layer.drop (k+1),n∈gn g) fun n ⟨g',h1,h2⟩=>by
              rw[hdr]at h1;rcases Z5.1 h1 with h1|h1
              . rw[h1,hgk]at h2;exact .inr h2
              . exact .inl ⟨g',h1,h2⟩
             simp[SH];refine hX5 _ _ _ ?_;simp[hwk];exact hK3 ⟨k+1,s2,F2,v72,next2,x7,⟨w6,_,_,_,_,_,.uu,.uu,.uu,.uu,_,_,_,_,_,_,_,_,_,_,_,_,_,_⟩⟩ _ _ (by grind) ⟨⟨a2.hs,hdn.start (a5h _),fun g' hg'=>⟨(z1.ok g' (by grind)).1.mono a2.pre b6,S7 (z1.ok g' (by grind)).2 b7⟩⟩,m7,b3,⟨_,_,b4⟩,b5,fun h=>absurd h (Nat.succ_ne_zero _),rfl,rfl⟩
       . obtain rfl:k=layer.length:=i9;have hct1:=z1.ci.ct;simp[SH,hl1];refine hX3 _ _ _ ?_;have hly:a5x t s1 F1 next (d+1):=⟨z1.hs,z1.ci.sr.mono fun n _ hp=>.inl (hp.elim (fun⟨g,hg,_⟩=>by simp at hg) id),z1.ci.nx,i9,fun hne=>by have:=a2k.2 hne;omega⟩
         rcases z5 with⟨rfl,z5⟩|⟨g19,rfl,z5,z5n⟩
         . obtain rfl:=a5i.1 z5;simp[-a0q];exact hK2 ⟨s1,F1,v71,[],d+1,{x5 with c19:=(x5.c19.1,a0q (SH t s1 F1 v71 x5) true x5.c19.2)},.slc [],⟨_,_,_,_,_,_,_,_,_,_,_,_,_,_,_,_,_,_,_,_,_,_,_,_⟩⟩ _ _ (by grind) ⟨hly,⟨z3.a,z3.d⟩,.inl rfl,⟨_,_,z4⟩,rfl,rfl⟩
         . have hnn:next≠ []:=fun h=>z5n (by rw[h];rfl)
           have hnl:0<next.length:=a2k.2 hnn
           simp[z5];exact hK2 ⟨s1,F1,v71,next,d+1,{x5 with c19:=(g19,.arr 1 1 true (next.map GP))},.slc (next.map GP),⟨_,_,_,_,_,_,_,_,_,_,_,_,_,_,_,_,_,_,_,_,_,_,_,_⟩⟩ _ _ (by grind) ⟨hly,⟨z3.a,z3.d⟩,.inl rfl,⟨_,_,z4⟩,rfl,rfl⟩
 . simp[X53,SH,hlv];refine hR _ _ _ ⟨.inl ⟨rfl,c2D hlv⟩,rfl⟩ rfl ?_;simp[T7,X53,a3d]
end
noncomputable abbrev SH0(x:RX):l5:=
 [x.c0,x.c1,x.c2,dd,dd,dd,dd,dd,
  x.c8,x.c9,x.c10,x.K4,x.c12,x.J6,x.c14,x.c15,x.c16,x.c17,x.c18,x.c19,x.c20,x.c21,x.c22,x.c23,x.c24,x.c25,x.c26,x.c27,x.c28,x.c29,x.c30,x.c31,x.c32,x.c33,x.c34,x.c35,x.c36,x.c37,x.c38,x.c39,x.c40]
theorem c3K(t:j9)(x:RX):∃ws,FI Tryz.prog (.fn (.func 52) [] []) [AGR t] (SH0 x) (.ptr 5 1 0) ws∧m6 (SH0 x) ws=SH t ([],[]) [] 0 x:=by refine⟨[(3,(1,.mp false [] [])),(4,(1,.mp false [] [])),(5,(1,.var (SVQ t 0))),(6,(1,.arr 2 0 false [])),(7,(1,.arr 1 0 false []))],?_,rfl⟩;refine a3k mixed (X:=X52) c52 (by rfl) (by simp[X52]) k7 fun Q hR hN=>?_;simp[X52];refine hR _ _ ?_;simp[P6,X52]
section
variable{t:j9}{u:By}{x n:Nat}{ac:Bool}
theorem b4i:∀x y:By,bL x y=false→x≠y→bL y x=true
 | [],[],_,h=>absurd rfl h
 | [],_::_,h,_=>by cases h
 |_::_,[],_,_=>rfl
 |a::x,b::y,h,h2=>by
  have h:(decide (a<b)||(a==b&&Op.bytesLess x y))=false:=h;rw[Bool.or_eq_false_iff,decide_eq_false_iff_not]at h;show(decide (b<a)||(b==a&&Op.bytesLess y x))=true;by_cases hab:a=b
  . subst hab;have h3:=b4i x y (by simpa using h.2) fun e=>h2 (by rw[e])
    grind
  . grind
theorem b3E:∀x:By,bL x x=false
 | []=>rfl
 |a::x=>by have:=b3E x;have:Op.bytesLess x x=false:=this;show(decide (a<a)||(a==a&&Op.bytesLess x x))=false;simp[this]
def Y9(t:j9)(l:List Nat)(i x:Nat)(u:By):Prop:=∃q st',D8 t ((j4 t).getD x B9) q=some st'∧B6 t st'=true∧A9 t q=l.drop i∧F5 t q=u
theorem Y9.stop{l:List Nat}(h:B6 t ((j4 t).getD x B9)=true):Y9 t l l.length x []:=⟨[],_,rfl,h,by simp[A9],rfl⟩
theorem Y9.step{t:j9}(ht:s5 t){l:List Nat}{i x:Nat}{u:By}(hx:x<(j4 t).length){a:Nat×Nat}(ha:a∈E8 t x)(hf:fits t l i a.1)(h:Y9 t l (i+s7 t a.1) a.2 u):Y9 t l i x (prt t a.1++u):=by
 obtain⟨s',h1,_,h3,_⟩:=a5C hx ha;obtain⟨q,st',q1,q2,q3,q4⟩:=h;rw[h3,a1R (W7 ht (a1A hx) h1)]at q1;refine⟨a.1::q,st',?_,q2,?_,?_⟩
 . show(T.step t _ a.1).bind _=_;rw[h1];exact q1
 . rw[a8O hf,←q3];rfl
 . rw[a3p,q4];rfl
theorem Y9.cases(ht:s5 t){l:List Nat}{i:Nat}(hx:x<(j4 t).length)(hi:i≤l.length)(h:Y9 t l i x u):(i=l.length∧B6 t ((j4 t).getD x B9)=true∧u=[])∨∃a∈E8 t x,fits t l i a.1∧∃v,Y9 t l (i+s7 t a.1) a.2 v∧u=prt t a.1++v:=by
 obtain⟨q,st',q1,q2,q3,q4⟩:=h
 match q,q1,q3,q4 with
 | [],q1,q3,q4=>
  obtain rfl:=W6 q1;have:(l.drop i).length=0:=by rw[←q3];rfl
  rw[a2X]at this;exact .inl ⟨i9,q2,q4.symm⟩
 |k::q,q1,q3,q4=>
  obtain⟨s1,e1,e2⟩:=V1.1 (show(T.step t _ k).bind (fun s'=>D8 t s' q)=some st' from q1);have hd:l.drop i=cls t k++A9 t q:=by rw[←q3];rfl
  obtain⟨f1,f2⟩:=a9Z hd;have hs1:=W7 ht (a1A hx) e1;exact .inr ⟨_,a9j hx e1 ⟨q,st',e2,q2⟩,f1,F5 t q,⟨q,st',by rw[a1R hs1];exact e2,q2,f2.symm,rfl⟩,by rw[←q4,a3p];rfl⟩
theorem Y9.lng(ht:s5 t){l:List Nat}:Y9 t l 0 0 u↔M7 t l u:=by
 have e:(j4 t).getD 0 B9=start:=by rw[u9,a1T ht];rfl
 unfold Y9 M7;rw[e,List.drop_zero]
theorem Y9.len(ht:s5 t){l:List Nat}{i:Nat}(h:Y9 t l i x u):u.length≤4*l.length:=by
 obtain⟨q,st',q1,_,q3,rfl⟩:=h;have h1:=a7k ht q _ _ q1
 grind
structure TwI(S:By→Prop)(l:List By):Prop where
 le:l.length≤2
 so:l.Pairwise fun a b=>bL a b=true
 sd:∀x∈l,S x
 cm:∀x,S x→x∈l∨l.length=2
theorem TwI.iff{S S':By→Prop}{l:List By}(h:TwI S l)(e:∀x,S' x↔S x):TwI S' l:=
 ⟨h.le,h.so,fun x hx=>(e x).2 (h.sd x hx),fun x hx=>h.cm x ((e x).1 hx)⟩
theorem TwI.ins{S:By→Prop}{l:List By}(h:TwI S l)(x:By):TwI (fun y=>S y∨y=x) (a1Y l x):=by
 have two:∀{a b:By},(∀y∈[a,b],S y∨y=x)→bL a b=true→TwI (fun y=>S y∨y=x) [a,b]:=fun hs hb=>⟨m0 _,by simpa using hb,hs,fun _ _=>.inr rfl⟩
 match l,h with
 | [],h=>
  refine⟨by simp[a1Y],by simp[a1Y],fun y hy=>.inr (F7.1 hy),fun y hy=>?_⟩;rcases hy with hy|rfl
  . rcases h.cm y hy with h1|h1<;>cases h1
  . exact .inl (F7.2 rfl)
 | [a],h=>
  have ha:=h.sd a (F7.2 rfl);unfold a1Y;simp only;split
  . rename_i h1;exact two (by simp[ha]) h1
  . rename_i h1;have h1:bL x a=false:=(by simpa using h1);split
    . rename_i h2;subst h2;refine⟨h.le,h.so,fun y hy=>.inl (h.sd y hy),fun y hy=>?_⟩;rcases hy with hy|rfl
      . exact h.cm y hy
      grind
    . rename_i h2;exact two (by simp[ha]) (b4i x a h1 h2)
 | [a,b],h=>
  have ha:=h.sd a k7;have hb:=h.sd b k7;have hab:bL a b=true:=by simpa using h.so
  unfold a1Y;simp only;split
  . rename_i h1;exact two (by simp[ha]) h1
  . rename_i h1;have h1:bL x a=false:=(by simpa using h1);split
    . exact two (by simp[ha,hb]) hab
    . rename_i h2;split
      . exact two (by simp[ha]) (b4i x a h1 h2)
      grind
 |a::b::c::r,h=>have:=h.le;simp at this
theorem TwI.close{S T:By→Prop}{p:By}{two R:List By}(h:TwI (fun u=>S u∨∃v∈R,u=p++v) two)(hR:TwI T R):TwI (fun u=>S u∨∃v,T v∧u=p++v) two:=by
 refine⟨h.le,h.so,fun x hx=>(h.sd x hx).imp id fun⟨v,hv,e⟩=>⟨v,hR.sd v hv,e⟩,fun x hx=>?_⟩;rcases hx with hx|⟨v,hv,rfl⟩
 . exact h.cm x (.inl hx)
 . rcases hR.cm v hv with h1|h1
   . exact h.cm _ (.inr ⟨v,h1,rfl⟩)
   . right
     obtain⟨a,b,rfl⟩:∃a b,R=[a,b]:=by
      match R,h1 with
      | [a,b],_=>exact⟨a,b,rfl⟩
     have hab:bL a b=true:=(by simpa using hR.so);rcases h.cm (p++a) (.inr ⟨a,k7,rfl⟩)with g1|g1
     . rcases h.cm (p++b) (.inr ⟨b,k7,rfl⟩)with g2|g2
       . have hle:=h.le
         match two,hle,g1,g2 with
         | [c],_,g1,g2=>
          rw[F7]at g1 g2;have:=List.append_cancel_left (g1.trans g2.symm);subst this;rw[b3E]at hab;cases hab
         | [_,_],_,_,_=>rfl
         |_::_::_::_,hle,_,_=>simp at hle
       . exact g2
     . exact g1
theorem TwI.diff{S:By→Prop}{l:List By}(h:TwI S l){x y:By}(hx:S x)(hy:S y)(hn:x≠y):∃a b,l=[a,b]∧bL a b=true∧a≠b:=by
 have key:l.length=2:=by
  rcases h.cm x hx with h1|h1
  . rcases h.cm y hy with h2|h2
    . have hle:=h.le
      match l,hle,h1,h2 with
      | [c],_,h1,h2=>
       rw[F7]at h1 h2;exact absurd (h1.trans h2.symm) hn
      | [_,_],_,_,_=>rfl
      |_::_::_::_,hle,_,_=>simp at hle
    . exact h2
  . exact h1
 match l,key with
 | [a,b],_=>
  have hab:bL a b=true:=by simpa using h.so
  refine⟨a,b,rfl,hab,fun e=>?_⟩;subst e;rw[b3E]at hab;cases hab
def SX(t:j9)(l:List Nat)(n:Nat)(ac:Bool)(A:List (Nat×Nat))(j:Nat)(u:By):Prop:=(n=l.length∧ac=true∧u=[])∨∃a∈A.take j,fits t l n a.1∧∃v,Y9 t l (n+s7 t a.1) a.2 v∧u=prt t a.1++v
theorem c4q{l:List Nat}{j:Nat}{A:List (Nat×Nat)}(hj:j<A.length)(hf:¬fits t l n A[j].1)(u:By):SX t l n ac A (j+1) u↔SX t l n ac A j u:=by
 refine or_congr Iff.rfl ⟨fun⟨a,ha,h1,h2⟩=>?_,fun⟨a,ha,h⟩=>⟨a,by rw[J2];exact a2D _ ha,h⟩⟩;rw[J2,l9 hj]at ha
 grind
theorem c6a{l:List Nat}{j:Nat}{A:List (Nat×Nat)}(hj:j<A.length)(hf:fits t l n A[j].1)(u:By):SX t l n ac A (j+1) u↔SX t l n ac A j u∨∃v,Y9 t l (n+s7 t A[j].1) A[j].2 v∧u=prt t A[j].1++v:=by
 unfold SX;rw[or_assoc];refine or_congr Iff.rfl ⟨fun⟨a,ha,h1,h2⟩=>?_,fun h=>?_⟩
 . rw[J2,l9 hj]at ha
   grind
 . rcases h with⟨a,ha,h⟩|h
   . grind
   . exact⟨A[j],by rw[J2,l9 hj];exact a7K _ (F7.2 rfl),hf,h⟩
theorem c6i(ht:s5 t){l:List Nat}{k:Nat}(hk:k<(j4 t).length)(hn:n≤l.length)(ha:ac=B6 t ((j4 t).getD k B9))(u:By):Y9 t l n k u↔SX t l n ac (E8 t k) (E8 t k).length u:=by
 unfold SX;rw[J7];constructor
 . intro h;rcases h.cases ht hk hn with⟨h1,h2,h3⟩|⟨a,h1,h2,h3⟩
   all_goals grind
 . rintro(⟨rfl,h2,rfl⟩|⟨a,h1,h2,v,h3,rfl⟩)
   . exact Y9.stop (by grind)
   . exact h3.step ht hk h1 h2
theorem c8M{S:Prop}{p:By}{R:List By}{r:Nat}(hr:r<R.length):(S∨∃v∈R.take (r+1),u=p++v)↔(S∨∃v∈R.take r,u=p++v)∨u=p++R[r]:=by
 rw[or_assoc];refine or_congr Iff.rfl ⟨fun⟨v,hv,e⟩=>?_,fun h=>?_⟩
 . rw[J2,l9 hr]at hv
   grind
 . rcases h with⟨v,hv,e⟩|e
   . grind
   . exact⟨_,by rw[J2,l9 hr];exact a7K _ (F7.2 rfl),e⟩
end
def ES(U:PV)(k:Nat):List PV:=List.replicate k U++List.replicate (5-k) (.slc [])
theorem c1s(U:PV):∀k,k<5→∃h:k<(ES U k).length,(ES U k)[k]=.slc []
 |0,_=>⟨by show 0<5;decide,rfl⟩
 |1,_=>⟨by show 1<5;decide,rfl⟩
 |2,_=>⟨by show 2<5;decide,rfl⟩
 |3,_=>⟨by show 3<5;decide,rfl⟩
 |4,_=>⟨by show 4<5;decide,rfl⟩
 |k+5,h=>absurd h i9
theorem c8S(U:PV):∀k,k<5→(ES U k).set k U=ES U (k+1)
 |0,_=>rfl
 |1,_=>rfl
 |2,_=>rfl
 |3,_=>rfl
 |4,_=>rfl
 |k+5,h=>absurd h i9
abbrev KQ(col:List (List By)):PV:=.uslc (col.map fun two=>.slc (two.map St))
structure LC1 where
 (k:Nat)
 (ver g1:Nat)
 (w4 w12:PV)
structure LC2 where
 (n:Nat)
 (cs:List (List (List By)))
 (ver g1:Nat)
 (r2 r3 r4:Row)
 (w4 w6 w7 w8 w9 w10 w13 w14 w15 w16 w17 w18 w19 w20 w21 w22 w23 w24 w25 w26:PV)
structure LC3 where
 (k:Nat)
 (C:List (List By))
 (ver:Nat)
 (r2 r3 r4:Row)
 (w7 w8 w9 w10 w16 w17 w18 w19 w20 w21 w22 w23 w24 w25 w26:PV)
structure LC4 where
 (j:Nat)
 (two:List By)
 (r2 r3 r4:Row)
 (w9 w10 w17 w21 w22 w23 w24 w25 w26:PV)
structure LC5 where
 (r:Nat)
 (two:List By)
 (r4:Row)
 (w10 w26:PV)
theorem c8R{P:Nat→List By→Prop}{C:List (List By)}{k:Nat}{two:List By}(h:∀k',k'<k→P k' (C.getD k' []))(hk:k<C.length)(ht:P k two){k':Nat}(hk':k'<k+1):P k' ((C.set k two).getD k' []):=by
 by_cases e:k'=k
 . subst e;rw[u9,D7 hk];exact ht
 . rw[u9,D9 (fun h=>e h.symm),←u9];exact h k' i9
theorem c4w(t:j9)(ht:s5 t)(l:List Nat)(hl:l.length≤1100000000):∃r,(∃L:List By,r=.slc (L.map St)∧TwI (M7 t l) L)∧F0 54 [1] [AGR t,CL l] r:=by
 have hsl:=a1g ht;have hs1:=a1X ht;refine a2x mixed (X:=X54) c54 5 (by simp[X54]) (by kernel_rfl) fun Q hR hN=>?_;have hlg:(gL (E0 t) t).length=(j4 t).length:=by simp[gL]
 obtain⟨N,hN0⟩:=p8 ((j4 t).length);have hb24:(N:Int)*24≤140737488355328:=i9;have hbN:N≤9223372036854775807:=i9;simp[X54];have hU:PV.uslc (List.replicate N (PV.slc []))=KQ (List.replicate N []):=by simp[KQ]
 refine E3 (fun(y:LC1) vs h=>y.k≤5∧
  vs=[AGR t,CL l,.nils,.eptr 0 1 5 1 0 0,y.w4,.uu,.uu,.uu,.uu,.uu,.uu,IN y.k,y.w12,.uu,.uu,.uu,.uu,.uu,.uu,.uu,.uu,.uu,.uu,.uu,.uu,.uu,.uu]∧h=[(1,.arr 1 y.ver false (ES (KQ (List.replicate N [])) y.k)),(y.g1,.dead),dd,dd,dd]) (fun y=>5-y.k)
  ⟨0,0,0,.uu,.uu⟩ ⟨C9 _,rfl,rfl⟩ ?_
 rintro⟨k,ver,g1,w4,w12⟩ vs h ⟨y1,rfl,rfl⟩ Q2 hK2 hX2 hR2;dsimp only at y1;have hl5:(ES (KQ (List.replicate N [])) k).length=5:=by simp[ES];omega
 by_cases hk:k<5
 . have hwk:=wk1 k i9;obtain⟨hke,hkg⟩:=c1s (KQ (List.replicate N [])) k hk;have hks:=c8S (KQ (List.replicate N [])) k hk;simp[hk,hke,hkg,hwk,hlg,←hN0,hb24,hbN,hl5];rw[hU,hks];exact hK2 ⟨k+1,ver+1,g1+1,_,_⟩ _ _ m7 ⟨m7,rfl,rfl⟩
 . obtain rfl:k=5:=i9;simp;refine hX2 _ _ _ ?_;simp;have h5:ES (KQ (List.replicate N [])) 5=(List.replicate 5 (List.replicate N ([]:List By))).map KQ:=rfl;rw[h5];refine E3 (fun(y:LC2) vs h=>y.n≤l.length+1∧y.cs.length=5∧(∀c∈y.cs,c.length=N)∧(∀p,y.n≤p→p≤l.length→p<y.n+5→∀k,k<N→TwI (Y9 t l p k) ((y.cs.getD (p%5) []).getD k []))∧
    vs=[AGR t,CL l,.nils,.eptr 0 1 5 1 0 0,y.w4,I ((y.n:Int)-1),y.w6,y.w7,y.w8,y.w9,y.w10,IN 5,.bool false,y.w13,y.w14,y.w15,y.w16,y.w17,y.w18,y.w19,y.w20,y.w21,y.w22,y.w23,y.w24,y.w25,y.w26]∧h=[(1,.arr 1 y.ver false (y.cs.map KQ)),(y.g1,.dead),y.r2,y.r3,y.r4]) (fun y=>y.n)
    ⟨l.length+1,List.replicate 5 (List.replicate N ([]:List By)),ver,g1,dd,dd,dd,w4,.uu,.uu,.uu,.uu,.uu,.uu,.uu,.uu,.uu,.uu,.uu,.uu,.uu,.uu,.uu,.uu,.uu,.uu,.uu⟩ ?_ ?_
   . refine⟨m0 _,rfl,fun c hc=>?_,fun p h1 h2=>by dsimp only at h1;omega,?_,rfl⟩
     . rw[b4F hc,List.length_replicate]
     . simp
   rintro⟨n,cs,ver,g1',r2,r3,r4,w4,w6,w7,w8,w9,w10,w13,w14,w15,w16,w17,w18,w19,w20,w21,w22,w23,w24,w25,w26⟩ vs h ⟨y1,y2,y3,y4,rfl,rfl⟩ Q3 hK3 hX3 hR3;dsimp only at y1 y2 y3 y4;cases n with
   |zero=>
    simp;refine hX3 _ _ _ ?_;obtain⟨C,cr,hcs⟩:∃C cr,cs=C::cr:=by
     cases cs with
     |nil=>cases y2
     |cons C cr=>exact⟨C,cr,rfl⟩
    have hCl:=y3 C (by rw[hcs];exact a2W);obtain⟨L,Cr,hCs⟩:∃L Cr,C=L::Cr:=by
     cases C with
     |nil=>simp at hCl;omega
     |cons L Cr=>exact⟨L,Cr,rfl⟩
    have hTw:=y4 0 (C9 _) (C9 _) i9 0 i9;rw[hcs,hCs]at hTw;have hTw:TwI (Y9 t l 0 0) L:=hTw;have hTw:=hTw.iff fun x=>(Y9.lng ht).symm;rw[hcs,hCs]at y2;rw[hcs,hCs];rw[hCs]at hCl;simp at y2 hCl;have hN1:0<N:=i9;simp[y2,hCl,hN1];refine hR _ _ _ ⟨L,rfl,hTw⟩ ?_;simp[X54]
   |succ n=>
    have e0:((n+1:Nat):Int)-1=(n:Int):=i9;have hn0:(0:Int)≤(n:Int):=i9;have hnl:n≤l.length:=i9;have hm:(n:Int).tmod 5=((n%5:Nat):Int):=rfl;obtain⟨q,hq⟩:=p8 (n%5);rw[←hq]at hm;have hq5:q<5:=i9;have hqc:q<cs.length:=i9;obtain⟨C,hC⟩:=p8 (cs[q]);have hCl:C.length=N:=y3 C (by rw[hC];exact B7 hqc);simp[e0,hn0,hm,hq5,y2,hqc,←hC,hCl];refine E3 (fun(y:LC3) vs h=>y.k≤N∧y.C.length=N∧(∀k,k<y.k→TwI (Y9 t l n k) (y.C.getD k []))∧
     vs=[AGR t,CL l,.nils,.eptr 0 1 5 1 0 0,w4,IN n,.nown 0 1 y.ver q 0 0 N,y.w7,y.w8,y.w9,y.w10,IN 5,.bool false,.bool true,IN N,IN y.k,y.w16,y.w17,y.w18,y.w19,y.w20,y.w21,y.w22,y.w23,y.w24,y.w25,y.w26]∧h=[(1,.arr 1 y.ver false ((cs.set q y.C).map KQ)),(g1',.dead),y.r2,y.r3,y.r4]) (fun y=>N-y.k)
     ⟨0,C,ver,r2,r3,r4,w7,w8,w9,w10,w16,w17,w18,w19,w20,w21,w22,w23,w24,w25,w26⟩ ?_ ?_
    . refine⟨C9 _,hCl,fun k hk=>absurd hk (a6E _),rfl,?_⟩;rw[hC,b4I]
    rintro⟨k,C2,ver2,r2,r3,r4,w7,w8,w9,w10,w16,w17,w18,w19,w20,w21,w22,w23,w24,w25,w26⟩ vs h ⟨z1,z2,z3,rfl,rfl⟩ Q4 hK4 hX4 hR4;dsimp only at z1 z2 z3;by_cases hk:k<N
    . have hwk:=wk1 k i9;have hkN:k<(j4 t).length:=i9;have hla:(O4 t).length=(j4 t).length:=(by simp[O4]);have hkA:k<(O4 t).length:=i9;have hkg:k<(gL (E0 t) t).length:=i9;obtain⟨ac,hac⟩:=p8 ((O4 t)[k]);have hacB:ac=B6 t ((j4 t).getD k B9):=by
       rw[hac];simp only[O4,a1e];rw[u9,l9 hkN];rfl
      obtain⟨A,hA⟩:=p8 (E8 t k);have hxA:(gL (E0 t) t)[k]=A:=(by rw[hA];unfold E8;rw[u9,l9 hkg];rfl);have hAl:A.length≤64:=hA▸a5n ht k;have hAok:∀a∈A,a.1<t.rules.length∧a.2<(j4 t).length∧1≤s7 t a.1∧s7 t a.1≤4:=fun a ha=>a3m ht hkN (hA▸ha);obtain⟨two0,hcs,ht0⟩:∃two0:List By,(((n=l.length)=True∧ac=true∧two0=[[]])∨((n=l.length)=True∧ac=false∧two0=[])∨((n=l.length)=False∧True∧two0=[]))∧TwI (SX t l n ac A 0) two0:=by
       have nil:∀{S:By→Prop},(∀u,¬S u)→TwI S []:=fun h=>⟨k7,k7,k7,fun x hx=>absurd hx (h x)⟩
       by_cases h1:n=l.length
       . cases h2:ac with
         |true=>exact⟨[[]],.inl ⟨eq_true h1,rfl,rfl⟩,k7,k7,fun x hx=>.inl ⟨h1,rfl,by simpa only[F7]using hx⟩,fun x hx=>by
          rcases hx with⟨_,_,hx⟩|⟨a,ha,_⟩
          . exact .inl (F7.2 hx)
          . cases ha⟩
         |false=>exact⟨[],.inr (.inl ⟨eq_true h1,rfl,rfl⟩),nil fun u hu=>by
          rcases hu with⟨_,hu,_⟩|⟨a,ha,_⟩
          . cases hu
          . cases ha⟩
       . exact⟨[],.inr (.inr ⟨eq_false h1,trivial,rfl⟩),nil fun u hu=>by
          rcases hu with⟨hu,_⟩|⟨a,ha,_⟩
          . exact h1 hu
          . cases ha⟩
      rcases hcs with⟨g1,g2,g3⟩|⟨g1,g2,g3⟩|⟨g1,g2,g3⟩<;>simp[hk,g1,hla,hlg,←hN0,←hac,g2,hxA]<;>(
       refine E3 (fun(y:LC4) vs h=>y.j≤A.length∧TwI (SX t l n ac A y.j) y.two∧
        vs=[AGR t,CL l,.nils,.eptr 0 1 5 1 0 0,w4,IN n,.nown 0 1 ver2 q 0 0 N,IN k,.slc (y.two.map St),y.w9,y.w10,IN 5,.bool false,.bool true,IN N,IN k,.bool true,y.w17,.slc (A.map (AG t)),IN A.length,IN y.j,y.w21,y.w22,y.w23,y.w24,y.w25,y.w26]∧h=[(1,.arr 1 ver2 false ((cs.set q C2).map KQ)),(g1',.dead),y.r2,y.r3,y.r4]) (fun y=>A.length-y.j)
        ⟨0,two0,_,r3,r4,w9,w10,_,w21,w22,w23,w24,w25,w26⟩ ⟨C9 _,ht0,by rw[g3];rfl,by simp;rfl⟩ ?_
       rintro⟨j,two,r2,r3,r4,w9,w10,w17,w21,w22,w23,w24,w25,w26⟩ vs h ⟨a1,a2,rfl,rfl⟩ Q5 hK5 hX5 hR5;dsimp only at a1 a2;by_cases hj:j<A.length
       . have hwj:=wk1 j i9;obtain⟨a,ha⟩:=p8 (A[j]);obtain⟨o1,o2,o3,o4⟩:=hAok a (by rw[ha];exact B7 hj);obtain⟨cl,hcl⟩:=p8 (s7 t a.1);have hcl2:(cls t a.1).length=cl:=hcl.symm;rw[←hcl]at o3 o4;have hbg:=b7D (l.drop n) (cls t a.1) i9;obtain⟨fb,hfb0⟩:∃fb,fb=decide (cls t a.1<+:l.drop n):=⟨_,rfl⟩
         have hfb:fb=true↔fits t l n a.1:=(by rw[hfb0];exact decide_eq_true_iff);rw[←hfb0]at hbg;have htk:List.take (l.length-n) (List.drop n (l.map UN))=(l.drop n).map UN:=by rw[a1H,U4 (by rw[a2X,I8];exact m0 _)]
         rw[a1H]at htk;unfold CL at hbg;rw[a1H]at hbg;simp[hj,←ha,hnl,htk];refine l7 hbg ?_;cases fb with
         |true=>
          have hf:=hfb.1 rfl;have hfl:=a4C hf;rw[←hcl]at hfl;have hcw:IntKind.i64.wrap ((n:Int)+(cl:Int))=(n:Int)+(cl:Int):=O5;obtain⟨q2,hq2⟩:=p8 ((n+cl)%5);have hm2:((n:Int)+(cl:Int)).tmod 5=(q2:Int):=(by rw[hq2];rfl);have hqn:¬q=q2:=i9;have hq25:q2<5:=i9;have hq2c:q2<cs.length:=i9;obtain⟨C3,hC3⟩:=p8 (cs[q2]);have hC3l:C3.length=N:=y3 C3 (by rw[hC3];exact B7 hq2c);have ha2:a.2<N:=i9;have ha3:a.2<C3.length:=i9;obtain⟨R,hR0⟩:=p8 (C3[a.2]);have hTR:TwI (Y9 t l (n+cl) a.2) R:=by have:=y4 (n+cl) i9 i9 i9 a.2 ha2;have e1:cs.getD (q2) []=C3:=(by rw[u9,l9 hq2c,hC3];rfl);have e2:C3.getD a.2 []=R:=(by rw[u9,l9 ha3,hR0];rfl);rw[←hq2,e1,e2]at this;exact this
          simp[hcl2,hcw,hm2,hq25,y2,hqn,hq2c,←hC3,hC3l,ha2,←hR0];refine E3 (fun(y:LC5) vs h=>y.r≤R.length∧TwI (fun u=>SX t l n ac A j u∨∃v∈R.take y.r,u=prt t a.1++v) y.two∧
           vs=[AGR t,CL l,.nils,.eptr 0 1 5 1 0 0,w4,IN n,.nown 0 1 ver2 q 0 0 N,IN k,.slc (y.two.map St),.ptr 3 (r3.1+1) 0,y.w10,IN 5,.bool false,.bool true,IN N,IN k,.bool true,w17,.slc (A.map (AG t)),IN A.length,IN j,.bool true,.bool false,.slc (R.map St),IN R.length,IN y.r,y.w26]∧
           h=[(1,.arr 1 ver2 false ((cs.set q C2).map KQ)),(g1',.dead),r2,(r3.1+1,.var [St (prt t a.1),CL (cls t a.1),IN a.2]),y.r4]) (fun y=>R.length-y.r)
           ⟨0,two,r4,w10,w26⟩ ⟨C9 _,a2.iff fun u=>⟨fun h=>h.elim id fun⟨v,hv,_⟩=>(by cases hv),.inl⟩,rfl,k7⟩ ?_
          rintro⟨r,two,r4,w10,w26⟩ vs h ⟨b1,b2,rfl,rfl⟩ Q6 hK6 hX6 hR6;dsimp only at b1 b2;by_cases hr:r<R.length
          . have hRle:=hTR.le;have hwr:=wk1 r i9;have hin:=c6t two (prt t a.1++R[r]);have hll:=Y9.len ht (hTR.sd _ (B7 hr));have hpl:=b0C ht a.1;have hlen:¬(9223372036854775807:Int)<((prt t a.1).length:Int)+(R[r].length:Int):=i9;simp[hr,hlen];refine l7 hin ?_;simp[hwr];exact hK6 ⟨r+1,a1Y two (prt t a.1++R[r]),_,_,_⟩ _ _ m7 ⟨m7,(b2.ins _).iff fun u=>c8M hr,rfl,by simp;rfl⟩
          . obtain rfl:r=R.length:=i9;rw[J7]at b2;have hcl3:=b2.close hTR;simp;refine hX6 _ _ _ ?_;simp[hwj];exact hK5 ⟨j+1,two,r2,_,r4,_,_,_,_,_,_,_,_,_⟩ _ _ m7 ⟨m7,hcl3.iff fun u=>(c6a hj (by rw[←ha];exact hf) u).trans (by rw[←ha,←hcl]),rfl,by simp;rfl⟩
         |false=>
          have hf:¬fits t l n a.1:=fun h=>(by have:=hfb.2 h;cases this);simp[hwj];exact hK5 ⟨j+1,two,r2,_,r4,_,_,_,_,_,_,_,_,_⟩ _ _ m7 ⟨m7,a2.iff (c4q hj (by rw[←ha];exact hf)),rfl,by simp;rfl⟩
       . obtain rfl:j=A.length:=i9;have hfin:TwI (Y9 t l n k) two:=a2.iff fun u=>(by rw[hA];exact c6i ht hkN hnl hacB u);simp;refine hX5 _ _ _ ?_;have hk2:k<C2.length:=i9;have hset:((cs.map KQ).set q (KQ C2))[q]?=some (KQ C2):=D7 (by rw[I8];exact hqc);have hg2:k<C2.length:=hk2;have hkq:PV.uslc ((C2.map fun two=>PV.slc (two.map St)).set k (.slc (two.map St)))=KQ (C2.set k two):=by
          unfold KQ;rw[J8]
         simp[z2,hwk,hk,hk2,hset];rw[hkq,←J8];exact hK4 ⟨k+1,C2.set k two,ver2,_,_,_,_,_,_,_,_,_,_,_,_,_,_,_,_,_,_⟩ _ _ m7 ⟨m7,by rw[a2T];exact z2,fun k' hk'=>c8R (P:=fun k' L=>TwI (Y9 t l n k') L) z3 hk2 hfin hk',rfl,rfl⟩
       )
    . obtain rfl:k=N:=i9;have hw1:IntKind.i64.wrap ((n:Int)-1)=(n:Int)-1:=O5;simp;refine hX4 _ _ _ ?_;simp[hw1];rw[←J8];refine hK3 ⟨n,cs.set q C2,ver2,g1',r2,r3,r4,w4,_,_,_,_,_,_,_,_,_,_,_,_,_,_,_,_,_,_,_⟩ _ _ m7 ⟨m7,by rw[a2T];exact y2,fun c hc=>?_,fun p h1 h2 h3 k' hk'=>?_,rfl,rfl⟩
      . rcases a2E hc with hc|rfl
        . exact y3 c hc
        . exact z2
      . dsimp only at h1 h3⊢;by_cases hp:p%5=q
        . have hpn:p=n:=i9;subst hpn;have e:(cs.set q C2).getD q []=C2:=(by rw[u9,D7 hqc];rfl);rw[hp,e];exact z3 k' hk'
        . have e:(cs.set q C2).getD (p%5) []=cs.getD (p%5) []:=(by rw[u9,D9 (fun e=>hp e.symm),←u9]);rw[e];exact y4 p i9 h2 i9 k' hk'
def CkR(t:j9)(r:PV):Prop:=(r=.tup [.agg [.nils,St [],St []],I 0]∧¬Two t)∨∃(l:By) (a b:By),r=.tup [.agg [.slc (l.map UB),St a,St b],I 50]∧l.length≤260128513∧M7 t (l.map UInt8.toNat) a∧M7 t (l.map UInt8.toNat) b∧bL a b=true∧a≠b
theorem b3T(t:j9)(ht:s5 t)(hsm:Sm t):∃r,CkR t r∧F0 17 [1,0,0,0] [TP t] r:=by
 refine a2x mixed (X:=X17) c17 41 (by simp[X17]) (by kernel_rfl) fun Q hR hN=>?_;have hva:=a7V t ht.ok;have hv:R1 t=true:=(a6i t).2 ht;rw[hv]at hva;have hgr:=c0z t ht;simp[X17];refine l7 hva ?_;simp;refine l7 hgr ?_;simp;obtain⟨x,hx⟩:∃x:RX,x=⟨(1,.var [IN t.modes,UN t.accept,.slc (t.rules.map RP)]),(1,.var [.nils,St [],St []]),dd,dd,dd,dd,dd,dd,dd,dd,dd,dd,dd,dd,dd,dd,dd,dd,dd,dd,dd,dd,dd,dd,dd,dd,dd,dd,dd,dd,dd,dd,dd,dd,dd,dd⟩:=⟨_,rfl⟩
 obtain⟨wsn,hnf,hnu⟩:=c3K t x;refine a2Q hnf hnu (by rw[hx]) ?_;simp;obtain⟨rr,wss,hsr,hsf⟩:=c3C t ht hsm x (by rw[hx]) (by rw[hx]);obtain⟨H,hH⟩:=ex1 (m6 (SH t ([],[]) [] 0 x) wss);rw[hH]at hsr;have hHl:H.length=41:=by rw[←hH,a6m];rfl
 refine a2Q hsf hH rfl ?_;obtain⟨hsr,h3⟩:=hsr;obtain⟨T,rfl⟩:∃T,H=x.c0::x.c1::x.c2::T:=⟨H.drop 3,by rw[←a7E 3 H,h3];rfl⟩
 subst hx;have hTl:T.length=38:=by grind
 rcases hsr with⟨rfl,hn⟩|⟨w,g,rfl,h15,hwl,a0,b0,ha0,hb0,hab0⟩
 . simp[hTl];refine hR _ _ _ (.inl ⟨rfl,hn⟩) ?_;simp[X17]
 . obtain⟨hl12,h12⟩:∃h:12<T.length,T[12]=(g,.arr 1 0 false (w.map UB)):=by
    have h15:T[12]?=some (g,.arr 1 0 false (w.map UB)):=h15;exact B4.1 h15
   obtain⟨r2,⟨L,rfl,hTw⟩,hle⟩:=c4w t ht (w.map UInt8.toNat) (by grind);obtain⟨a,b,rfl,hab,hne⟩:=hTw.diff ha0 hb0 hab0;have hCL:CL (w.map UInt8.toNat)=.slc (w.map UB):=(by unfold CL;rw[a1f];rfl);rw[hCL]at hle;have hnr:(∀x,x∈w.map UB→D4 x=true)=True:=eq_true fun x hx=>by obtain⟨c,_,rfl⟩:=E9.1 hx;rfl
   have hfz:List.map B3 (w.map UB)=w.map UB:=(by rw[a1f];exact L9 fun _ _=>rfl);simp[hTl,h12,hnr,hfz];refine l7 hle ?_;simp[hTl];refine hR _ _ _ (.inr ⟨w,a,b,rfl,hwl,hTw.sd a k7,hTw.sd b k7,hab,hne⟩) ?_;simp[X17]
theorem a8r(t:j9)(ht:s5 t)(hsm:Sm t):∃c:Bool,(c=true↔¬Two t)∧F0 9 [0] [TP t] (B c):=by
 obtain⟨r,hr,hf⟩:=b3T t ht hsm;rcases hr with⟨rfl,hn⟩|⟨w,a,b,rfl,hwl,ha,hb,hab,hne⟩
 . refine⟨true,⟨fun _=>hn,fun _=>rfl⟩,?_⟩;refine E7 c9 3 (by simp[X9]) fun Q hR hN=>?_;simp[X9];refine l7 hf ?_;simp;refine hR _ _ ?_;simp[X9]
 . refine⟨false,⟨fun h=>(by cases h),fun h=>absurd ⟨_,a,b,ha,hb,hne⟩ h⟩,?_⟩;refine E7 c9 3 (by simp[X9]) fun Q hR hN=>?_;simp[X9];refine l7 hf ?_;simp;refine hR _ _ ?_;simp[X9]
set_option maxHeartbeats 8000000
theorem c8K(b:UInt8):F0 62 [0] [U b.toNat] (B (a2Y b)):=by
 refine E7 c62 0 (by simp[X62]) fun Q hR hN=>?_;have h:=a9e b;simp[X62,h];by_cases h1:32≤P3 b
 . simp[h1];refine hR _ _ ?_;simp[X62,a2Y,h1,h]
 . simp[h1];refine hR _ _ ?_;simp[X62,a2Y,h1]
theorem c6Q(b:UInt8):F0 120 [0] [U b.toNat] (B (decide (P3 b=32))):=by refine E7 c120 0 (by simp[b0o]) fun Q hR hN=>?_;have h:=a9e b;simp[b0o,h];refine hR _ _ ?_;simp[b0o]
theorem c8z(s:By)(hs:s.length≤1100000000):F0 24 [0,0] [St s] (b1g s):=by
 refine E7 c24 0 (by simp[X24]) fun Q hR hN=>?_;simp[X24];refine I2 (fun(k:Nat) vs h=>k≤s.length∧(∀j,(hj:j<s.length)→j<k→a2Y s[j]=true)∧vs=[St s,.uu,.uu,IN k,.uu,.uu]∧h=[]) (fun k=>s.length-k) 0 ?_ ?_
 . simp
 . rintro k vs h ⟨g1,g2,rfl,rfl⟩ Q' hK hX hR';by_cases hk:k<s.length
   . have hw:=wk1 k i9;simp[hk];refine l7 (c8K s[k]) ?_;cases hc:a2Y s[k]
     . simp;refine hR' _ _ ?_;simp;have:a0d s=some k:=by
        unfold a0d;rw[a1V];exact⟨hk,by simp[hc],fun j hj=>by simp[g2 j i9 hj]⟩
       refine hR _ _ ?_;simp[X24,this]
     . simp[hw];refine hK (k+1) _ _ i9 ?_;simp;refine⟨i9,fun j hj hjk=>?_⟩;by_cases h2:j<k
       . exact g2 j hj h2
       . obtain rfl:j=k:=i9;exact hc
   . obtain rfl:k=s.length:=i9;have:a0d s=none:=by
      unfold a0d;rw[b1O];intro b hb;obtain⟨j,hj,rfl⟩:=a1F hb;simp[g2 j hj hj]
     simp;refine hX _ _ _ ?_;simp;refine hR _ _ ?_;simp[X24,this]
theorem c4A(s:By)(hs:s.length≤1100000000):F0 119 [0] [St s] (B (a0d s).isNone):=by refine E7 c119 0 (by simp[b0e]) fun Q hR hN=>?_;simp[b0e];refine l7 (c8z s hs) ?_;simp;refine hR _ _ ?_;cases hb:a0d s<;>simp[b0e,hb]
theorem b8P(a b:List Nat)(ha:a.length≤1100000000):F0 29 [0] [CL a,CL b] (B (decide (a=b))):=by
 refine E7 c29 0 (by simp[X29]) fun Q hR hN=>?_;by_cases hl:a.length=b.length
 . simp[X29,hl];refine I2 (fun(k:Nat) vs h=>k≤b.length∧(∀j,(hj:j<b.length)→j<k→a[j]'i9=b[j])∧vs=[CL a,CL b,.uu,IN k,.uu,.uu,.uu]∧h=[]) (fun k=>b.length-k) 0 ?_ ?_
   . simp
   . rintro k vs h ⟨g1,g2,rfl,rfl⟩ Q' hK hX hR';by_cases hk:k<b.length
     . have hw:=wk1 k i9;have hka:k<a.length:=i9;by_cases hc:a[k]=b[k]
       . simp[hk,hka,hc,hw];refine hK (k+1) _ _ i9 ?_;simp;refine⟨i9,fun j hj hjk=>?_⟩;by_cases h2:j<k
         . exact g2 j hj h2
         . obtain rfl:j=k:=i9;exact hc
       . have:¬a=b:=fun e=>hc (by subst e;rfl);have hc':¬((a[k]:Nat):Int)=b[k]:=i9;simp[hk,hka,hc,hc'];refine hR' _ _ ?_;simp;refine hR _ _ ?_;simp[X29,this]
     . obtain rfl:k=b.length:=i9;have:a=b:=a0t hl fun j h1 h2=>g2 j h2 h2;simp[hl];refine hX _ _ _ ?_;simp;refine hR _ _ ?_;simp[X29,this]
 . simp[X29,hl];refine hR _ _ ?_;have:¬a=b:=fun e=>hl (by rw[e]);simp[X29,this]
theorem c3N(a b:N9)(ha:a.cells.length≤1100000000):F0 102 [0] [RP a,RP b] (B (decide (a=b))):=by
 refine E7 c102 2 (by simp[a2t]) fun Q hR hN=>?_;have he:=b5n a b;have hc:=b8P a.cells b.cells ha;by_cases h5:a.print=b.print
 . by_cases h6:a.cells=b.cells
   . rw[decide_eq_true h6]at hc;by_cases h3:a.left=b.left
     . by_cases h4:a.right=b.right
       . by_cases h1:a.src=b.src
         . by_cases h2:a.dst=b.dst<;>
           . simp[a2t,h5];refine l7 hc ?_;simp[h3,h4,h1,h2];refine hR _ _ ?_;simp[a2t,he,h1,h2,h3,h4,h5,h6]
         . simp[a2t,h5];refine l7 hc ?_;simp[h3,h4,h1];refine hR _ _ ?_;simp[a2t,he,h1]
       . simp[a2t,h5];refine l7 hc ?_;simp[h3,h4];refine hR _ _ ?_;simp[a2t,he,h4]
     . simp[a2t,h5];refine l7 hc ?_;simp[h3];refine hR _ _ ?_;simp[a2t,he,h3]
   . rw[decide_eq_false h6]at hc;simp[a2t,h5];refine l7 hc ?_;simp;refine hR _ _ ?_;simp[a2t,he,h6]
 . have h5':(a.print==b.print)=false:=beq_eq_false_iff_ne.2 h5;simp[a2t,h5'];refine hR _ _ ?_;simp[a2t,he,h5]
theorem c5P(b:UInt8):decide (a1n b=4)=decide (P3 b=32):=by
 unfold a1n;have:=c1P b;congr 1;apply propext;split
 . constructor<;>intro h<;>omega
 split
 . constructor<;>intro h<;>omega
 split
 . constructor<;>intro h<;>omega
 split
 . constructor<;>intro h<;>omega
 . constructor<;>intro h<;>omega
theorem c5k(r:N9)(m:Nat)(hr:OkR r)(hm:m≤1000000):F0 101 [0] [RP r,IN m] (B (a0y r m)):=by
 refine E7 c101 2 (by simp[U5]) fun Q hR hN=>?_;have he:a0y r m=(if 4<r.print.length∨r.cells.length<1∨4<r.cells.length then false
  else if(a0d r.print).isSome then false
  else if r.left<1∨63<r.left∨r.right<1∨63<r.right then false
  else if m≤r.src∨m≤r.dst then false
  else if a3q r.print then decide (r.print.length=1∧r.cells=[0])
  else r.cells.all fun c=>decide (c<64)&&decide (c≠63)&&decide (c≠0)):=rfl
 have hl:=hr.print;have hcl:=hr.cells;have ht:=c4A r.print i9;cases hb:a0d r.print with
 |some k=>
  have he2:a0y r m=false:=by grind
  rw[hb]at ht;simp[U5];refine l7 ht ?_;simp;refine hR _ _ ?_;simp[U5,he2]
 |none=>
  rw[hb]at ht;by_cases a1:4<r.print.length
  . simp[U5];refine l7 ht ?_;simp[a1];refine hR _ _ ?_;simp[U5,he,a1]
  by_cases a2:r.cells.length<1
  . simp[U5];refine l7 ht ?_;simp[a1,a2];refine hR _ _ ?_;simp[U5,he,a2]
  by_cases a3:4<r.cells.length
  . simp[U5];refine l7 ht ?_;simp[a1,a2,a3];refine hR _ _ ?_;simp[U5,he,a3]
  rw[if_neg i9,if_neg (by simp[hb])]at he;by_cases b1:r.left<1
  . simp[U5];refine l7 ht ?_;simp[a1,a2,a3,b1];refine hR _ _ ?_;simp[U5,he,b1]
  by_cases b2:63<r.left
  . simp[U5];refine l7 ht ?_;simp[a1,a2,a3,b1,b2];refine hR _ _ ?_;simp[U5,he,b2]
  by_cases b3:r.right<1
  . simp[U5];refine l7 ht ?_;simp[a1,a2,a3,b1,b2,b3];refine hR _ _ ?_;simp[U5,he,b3]
  by_cases b4:63<r.right
  . simp[U5];refine l7 ht ?_;simp[a1,a2,a3,b1,b2,b3,b4];refine hR _ _ ?_;simp[U5,he,b4]
  rw[if_neg i9]at he;by_cases b5:m≤r.src
  . simp[U5];refine l7 ht ?_;simp[a1,a2,a3,b1,b2,b3,b4,b5];refine hR _ _ ?_;simp[U5,he,b5]
  by_cases b6:m≤r.dst
  . simp[U5];refine l7 ht ?_;simp[a1,a2,a3,b1,b2,b3,b4,b5,b6];refine hR _ _ ?_;simp[U5,he,b6]
  rw[if_neg i9]at he;simp[U5];refine l7 ht ?_;simp[a1,a2,a3,b1,b2,b3,b4,b5,b6];obtain⟨spK,hspK⟩:∃spK:Nat→Bool,∀k,spK k=(r.print.take k).any fun b=>decide (P3 b=32):=⟨_,fun _=>rfl⟩
  obtain⟨blK,hblK⟩:∃blK:Nat→Bool,∀k,blK k=(r.cells.take k).any fun c=>decide (c=0):=⟨_,fun _=>rfl⟩
  have hs0:spK 0=false:=by rw[hspK];rfl
  have hb0:blK 0=false:=by rw[hblK];rfl
  have hsn:∀k,(hk:k<r.print.length)→spK (k+1)=(spK k||decide (P3 r.print[k]=32)):=fun k hk=>by rw[hspK,hspK,J2,List.any_append,l9 hk];simp
  have hbn:∀k,(hk:k<r.cells.length)→blK (k+1)=(blK k||decide (r.cells[k]=0)):=fun k hk=>by rw[hblK,hblK,J2,List.any_append,l9 hk];simp
  have hsE:spK r.print.length=a3q r.print:=by rw[hspK,J7];unfold a3q;simp only[c5P]
  refine I2 (fun(k:Nat) vs h=>k≤r.print.length∧vs=[.uu,.uu,.ptr 1 1 0,.uu,B (spK k),.bool false,IN k,.uu,.uu,.uu,.uu,.uu,.uu,.uu]∧
   h=[dd,(1,.var [St r.print,CL r.cells,UN r.left,UN r.right,IN r.src,IN r.dst])]) (fun k=>r.print.length-k) 0 ?_ ?_
  . simp[hs0]
  . rintro k vs h ⟨g1,rfl,rfl⟩ Q' hK hX hR';by_cases hk:k<r.print.length
    . have hw:=wk1 k i9;have hn:=hsn k hk;cases hsk:spK k
      . rw[hsk,Bool.false_or]at hn;have hsp:=c6Q r.print[k];rw[←hn]at hsp;simp[hk];refine l7 hsp ?_;simp[hw];refine hK (k+1) _ _ i9 ?_;simp;omega
      . rw[hsk,Bool.true_or]at hn;simp[hk,hw];refine hK (k+1) _ _ i9 ?_;simp[hn];omega
    . obtain rfl:k=r.print.length:=i9;rw[hsE];simp;refine hX _ _ _ ?_;simp;obtain⟨sp,hsp⟩:=p8 (a3q r.print);rw[←hsp];rw[←hsp]at he;refine I2 (fun(k:Nat) vs h=>k≤r.cells.length∧(∀j,(hj:j<r.cells.length)→j<k→r.cells[j]<63)∧vs=[.uu,.uu,.ptr 1 1 0,.uu,B sp,B (blK k),.uu,IN k,.uu,.uu,.uu,.uu,.uu,.uu]∧
       h=[dd,(1,.var [St r.print,CL r.cells,UN r.left,UN r.right,IN r.src,IN r.dst])]) (fun k=>r.cells.length-k) 0 ?_ ?_
      . simp[hb0]
      . rintro k vs h ⟨q1,q2,rfl,rfl⟩ Q2 hK2 hX2 hR2;by_cases hk:k<r.cells.length
        . have hw:=wk1 k i9;have hn:=hbn k hk;by_cases h63:63≤r.cells[k]
          . have hf:a0y r m=false:=by
             rw[he];cases sp
             . rw[if_neg k7];exact List.all_eq_false.2 ⟨_,B7 hk,I3⟩
             . grind
            simp[hk,h63];refine hR2 _ _ ?_;simp;refine hR _ _ ?_;simp[U5,hf]
          . have hq:∀j,(hj:j<r.cells.length)→j<k+1→r.cells[j]<63:=fun j hj hjk=>by
             by_cases h2:j<k
             . exact q2 j hj h2
             . obtain rfl:j=k:=i9;omega
            cases hbk:blK k
            . rw[hbk,Bool.false_or]at hn;simp[hk,h63,hw,←hn];refine hK2 (k+1) _ _ i9 ?_;simp;exact⟨i9,hq⟩
            . rw[hbk,Bool.true_or]at hn;simp[hk,h63,hw];refine hK2 (k+1) _ _ i9 ?_;simp[hn];exact⟨i9,hq⟩
        . obtain rfl:k=r.cells.length:=i9;obtain⟨bl,hbl⟩:=p8 (blK r.cells.length);rw[←hbl];have hbl2:bl=r.cells.any fun c=>decide (c=0):=(by grind);have hq:∀c∈r.cells,c<63:=fun c hc=>by
           obtain⟨j,hj,rfl⟩:=a1F hc;exact q2 j hj hj
          simp;refine hX2 _ _ _ ?_;cases sp with
          |false=>
           have hf:a0y r m=!bl:=(by grind);simp;refine hR _ _ ?_;simp[U5,hf]
          |true=>
           rw[if_pos rfl]at he;by_cases f1:r.print.length=1
           . by_cases f2:r.cells.length=1
             . obtain⟨c0,hc0⟩:=a9C.1 f2;rw[hc0]at he hbl2;simp[f1,hc0];refine hR _ _ ?_;simp[U5,he,f1,hbl2]
             . have:¬r.cells=[0]:=fun e=>f2 (by rw[e];rfl);simp[f1,f2];refine hR _ _ ?_;simp[U5,he,f1,this]
           . simp[f1];refine hR _ _ ?_;simp[U5,he,f1]
theorem c6L(t:j9)(ht:OkT t):∃i e:Int,(e=0↔R1 t=true)∧F0 68 [0,0] [TP t] (.tup [I i,I e]):=by
 suffices hh:∃r,(∃i e:Int,(e=0↔R1 t=true)∧r=.tup [I i,I e])∧F0 68 [0,0] [TP t] r by obtain⟨r,⟨i,e,h1,rfl⟩,h2⟩:=hh;exact⟨i,e,h1,h2⟩
 refine a2x mixed (X:=X68) c68 2 (by simp[X68]) (by kernel_rfl) fun Q hR hN=>?_;have hv:R1 t=(if t.modes<1∨8<t.modes then false
  else if t.accept=0∨2^t.modes≤t.accept then false
  else if t.rules.length<1∨64<t.rules.length then false
  else(t.rules.all fun r=>a0y r t.modes)&&decide t.rules.Nodup):=rfl
 have hbad:∀i e:Int,e≠0→R1 t=false→∃i' e':Int,(e'=0↔R1 t=true)∧PV.tup [I i,I e]=.tup [I i',I e']:=fun i e he h=>⟨i,e,by simp[he,h],rfl⟩
 by_cases a1:t.modes<1
 . simp[X68,a1];refine hR _ _ _ (hbad (-1) 1 H6 (by grind)) ?_;simp[X68]
 by_cases a2:8<t.modes
 . simp[X68,a1,a2];refine hR _ _ _ (hbad (-1) 1 H6 (by grind)) ?_;simp[X68]
 rw[if_neg i9]at hv;by_cases a3:t.accept=0
 . simp[X68,a1,a2,a3];refine hR _ _ _ (hbad (-1) 1 H6 (by grind)) ?_;simp[X68]
 have hsh:=b5o (m:=t.modes) i9;have hac:=ht.accept;have hwa:IntKind.i64.wrap (t.accept:Int)=t.accept:=O5;have tp:((2:Int)^t.modes≤(t.accept:Int))=(2^t.modes≤t.accept):=by grind
 by_cases a4:2^t.modes≤t.accept
 . simp[X68,a1,a2,a3,IntKind.bits,hsh,hwa,tp,a4];refine hR _ _ _ (hbad (-1) 1 H6 (by grind)) ?_;simp[X68]
 rw[if_neg i9]at hv;by_cases a5:t.rules.length<1
 . have a5':t.rules=[]:=a0Q.1 i9;simp[X68,a1,a2,a3,IntKind.bits,hsh,hwa,tp,a4,a5'];refine hR _ _ _ (hbad (-1) 1 H6 (by grind)) ?_;simp[X68]
 by_cases a6:64<t.rules.length
 . simp[X68,a1,a2,a3,IntKind.bits,hsh,hwa,tp,a4,a5,a6];refine hR _ _ _ (hbad (-1) 1 H6 (by grind)) ?_;simp[X68]
 rw[if_neg i9]at hv;simp[X68,a1,a2,a3,IntKind.bits,hsh,hwa,tp,a4,a5,a6];refine I2 (fun(k:Nat) vs h=>k≤t.rules.length∧b3m t k∧vs=[.uu,.ptr 1 1 0,.uu,.uu,IN k,.uu,.uu,.uu,.uu,.uu,.uu]∧
  h=[dd,(1,.var [IN t.modes,UN t.accept,.slc (t.rules.map RP)])]) (fun k=>t.rules.length-k) 0 ?_ ?_
 . simp;exact⟨fun j _ h=>absurd h i9,fun i j _ _ h=>absurd h i9⟩
 . rintro k vs h ⟨g1,g2,rfl,rfl⟩ Q' hK hX hR';by_cases hk:k<t.rules.length
   . have hw:=wk1 k i9;have hrk:=ht.a1i _ (B7 hk);have hsd:=c5k t.rules[k] t.modes hrk i9;cases hs:a0y t.rules[k] t.modes
     . have hf:R1 t=false:=by
        rw[hv,show(t.rules.all fun r=>a0y r t.modes)=false from List.all_eq_false.2 ⟨_,B7 hk,by simp[hs]⟩];rfl
       rw[hs]at hsd;simp[hk];refine l7 hsd ?_;simp;refine hR' _ _ ?_;simp;refine hR _ _ _ (hbad k 20 H6 hf) ?_;simp[X68]
     . rw[hs]at hsd;simp[hk];refine l7 hsd ?_;simp;refine I2 (fun(j:Nat) vs h=>j≤k∧(∀i,(hi:i<j)→(hjk:j≤k)→t.rules[i]≠t.rules[k])∧vs=[.uu,.ptr 1 1 0,.uu,.uu,IN k,IN j,.uu,.uu,.uu,.uu,.uu]∧
        h=[dd,(1,.var [IN t.modes,UN t.accept,.slc (t.rules.map RP)])]) (fun j=>k-j) 0 ?_ ?_
       . simp
       . rintro j vs h ⟨q1,q2,rfl,rfl⟩ Q'' hK2 hX2 hR2;by_cases hj:j<k
         . have hjl:j<t.rules.length:=i9;have hwj:=wk1 j i9;have heq:=c3N t.rules[j] t.rules[k] (by have:=(ht.a1i _ (B7 hjl)).cells;omega);by_cases hjk:t.rules[j]=t.rules[k]
           . have hf:R1 t=false:=by
              rw[hv,show decide t.rules.Nodup=false from decide_eq_false fun hn=>a5N.1 hn j k hjl hk hj hjk,Bool.and_false]
             simp only[hjk,decide_true]at heq;simp[hj,hjl,hk,hjk];refine l7 heq ?_;simp;refine hR2 _ _ ?_;simp;refine hR' _ _ ?_;simp;refine hR _ _ _ (hbad k 20 H6 hf) ?_;simp[X68]
           . simp only[hjk,decide_false]at heq;simp[hj,hjl,hk];refine l7 heq ?_;simp[hwj];refine hK2 (j+1) _ _ i9 ?_;simp;refine⟨i9,fun i hi hjk'=>?_⟩;by_cases h2:i<j
             . exact q2 i h2 q1
             . grind
         . obtain rfl:j=k:=i9;simp;refine hX2 _ _ _ ?_;simp[hw];refine hK (j+1) _ _ i9 ?_;simp;refine⟨i9,fun i hi hij=>?_,fun i m hm hi hmj=>?_⟩
           . by_cases h2:i<j
             . exact g2.1 i hi h2
             . obtain rfl:i=j:=i9;exact hs
           . by_cases h2:m<j
             . exact g2.2 i m hm hi h2
             . grind
   . obtain rfl:k=t.rules.length:=i9;have hf:R1 t=true:=(by rw[hv];exact c0N g2);simp;refine hX _ _ _ ?_;simp;refine hR _ _ _ ⟨0,0,by simp[hf],rfl⟩ ?_;simp[X68]
theorem c2Z(t:j9)(ht:OkT t):F0 33 [0] [TP t] (B (R1 t)):=by refine E7 c33 1 (by simp[X33]) fun Q hR hN=>?_;obtain⟨i,e,he,hc⟩:=c6L t ht;simp[X33];refine l7 hc ?_;simp;refine hR _ _ ?_;simp[X33];cases hv:R1 t<;>simp[hv]at he⊢ <;>exact he
set_option maxHeartbeats 16000000
def G9(p:By)(cs:List Nat)(a b:Nat):N9:=⟨p,cs,63,63,a,b⟩
def O8(c k a b:Nat):N9:=⟨[],[c],63,2^k,a,b⟩
theorem a0o(p:By)(cs:List Nat)(a b:Nat):F0 66 [0,1,0,0,0,0] [St p,CL cs,.agg [IN a,IN b]] (RP (G9 p cs a b)):=by refine E7 c66 2 (by simp[X66]) fun Q hR hN=>?_;simp[X66];refine hR _ _ ?_;simp[X66,G9]
theorem b3w(c k a b:Nat)(hk:k≤3):F0 65 [0,1,0,0,0,0] [UN c,IN k,.agg [IN a,IN b]] (RP (O8 c k a b)):=by
 refine E7 c65 4 (by simp[X65]) fun Q hR hN=>?_;have hs:=a0o [] [c] a b;simp[X65];refine l7 hs ?_;have hw:IntKind.u8.wrap (2^min k IntKind.u8.bits)=((2^k:Nat):Int):=by
  have:∀n:Fin 4,IntKind.u8.wrap (2^min n.val IntKind.u8.bits)=((2^n.val:Nat):Int):=by decide+kernel
  exact this ⟨k,i9⟩
 simp[G9,hw];refine hR _ _ ?_;simp[X65,O8]
def a0Y:List N9:=[G9 [97] [1] 0 0,G9 [98] [3] 0 0,G9 [99] [9] 0 0,G9 [32] [0] 0 0]
theorem c3H:F0 64 [6] [] (.uslc (a0Y.map RP)):=by refine E7 c64 6 (by simp[X64]) fun Q hR hN=>?_;simp[X64];refine l7 (a0o [97] [1] 0 0) ?_;simp[G9];refine l7 (a0o [98] [3] 0 0) ?_;simp[G9];refine l7 (a0o [99] [9] 0 0) ?_;simp[G9];refine l7 (a0o [32] [0] 0 0) ?_;simp[G9];refine hR _ _ ?_;simp[X64,a0Y,G9]
def a4Z(k:Nat):List N9:=match k with
 |1=>a0Y++[O8 60 3 0 1,G9 [49] [1] 1 1,G9 [50] [3] 1 1,G9 [32] [0] 1 0]
 |2=>a0Y++[O8 32 2 0 1,G9 [65] [1] 1 0,G9 [66] [3] 1 0]
 |3=>a0Y++[G9 [97,98] [7] 0 0,G9 [97,98,99] [15] 0 0,G9 [99,97] [4,4] 0 0]
 |4=>a0Y++[G9 [45] [1,3] 0 0]
 |5=>a0Y++[{G9 [98] [44] 0 0 with left:=17},{G9 [99,97,98] [44] 0 0 with left:=2},G9 [45] [36] 0 0]
 |6=>a0Y++[O8 40 1 0 1,G9 [225] [1] 1 0,G9 [226] [3] 1 0]
 |7=>a0Y++[G9 [45] [1,5] 0 0,G9 [49] [5,5] 0 0,G9 [50] [5,9] 0 0]
 |_=>a0Y
def H4(k:Nat):j9:=⟨if k=1∨k=2∨k=6 then 2 else 1,if k=1 then 3 else 1,a4Z k⟩
theorem b6E(L:List N9):∀x,x∈L.map RP→D4 x=true:=fun x hx=>by obtain⟨g,_,rfl⟩:=E9.1 hx;rfl
@[simp ↓] theorem d0x(L:List N9):(∀x,x∈L.map RP→D4 x=true)=True:=eq_true (b6E L)
@[simp ↓] theorem c9N(L:List N9):(L.map RP).all D4=true:=A8.2 (b6E L)
@[simp] theorem d2m(L:List N9):List.map (B3∘RP) L=L.map RP:=L9 fun g _=>rfl
theorem b3A(k:UInt8):F0 28 [0,0,6] [U k.toNat] (TP (H4 (k.toNat%8))):=by
 refine E7 c28 42 (by simp[X28]) fun Q hR hN=>?_;have hm:(k.toNat:Int).tmod 8=((k.toNat%8:Nat):Int):=rfl;obtain⟨q,hq⟩:=p8 (k.toNat%8);rw[←hq]at hm;rw[←hq]at hR;have hq8:q<8:=i9;have hl:=c3H;have hll:a0Y.length=4:=rfl;simp[X28];refine l7 hl ?_
 match q,hq8 with
 |0,_=>
  simp[hm];refine hR _ _ ?_;simp[X28,H4,a4Z,a0Y,G9,O8]
 |1,_=>
  simp[hm];refine l7 (b3w 60 3 0 1 i9) ?_;simp[G9,O8,hll];refine l7 (a0o [49] [1] 1 1) ?_;simp[G9,O8,hll];refine l7 (a0o [50] [3] 1 1) ?_;simp[G9,O8,hll];refine l7 (a0o [32] [0] 1 0) ?_;simp[G9,O8,hll];refine hR _ _ ?_;simp[X28,H4,a4Z,a0Y,G9,O8]
 |2,_=>
  simp[hm];refine l7 (b3w 32 2 0 1 i9) ?_;simp[G9,O8,hll];refine l7 (a0o [65] [1] 1 0) ?_;simp[G9,O8,hll];refine l7 (a0o [66] [3] 1 0) ?_;simp[G9,O8,hll];refine hR _ _ ?_;simp[X28,H4,a4Z,a0Y,G9,O8]
 |3,_=>
  simp[hm];refine l7 (a0o [97,98] [7] 0 0) ?_;simp[G9,O8,hll];refine l7 (a0o [97,98,99] [15] 0 0) ?_;simp[G9,O8,hll];refine l7 (a0o [99,97] [4,4] 0 0) ?_;simp[G9,O8,hll];refine hR _ _ ?_;simp[X28,H4,a4Z,a0Y,G9,O8]
 |4,_=>
  simp[hm];refine l7 (a0o [45] [1,3] 0 0) ?_;simp[G9,O8,hll];refine hR _ _ ?_;simp[X28,H4,a4Z,a0Y,G9,O8]
 |5,_=>
  simp[hm];refine l7 (a0o [98] [44] 0 0) ?_;simp[G9,O8,hll];refine l7 (a0o [99,97,98] [44] 0 0) ?_;simp[G9,O8,hll];refine l7 (a0o [45] [36] 0 0) ?_;simp[G9,O8,hll];refine hR _ _ ?_;simp[X28,H4,a4Z,a0Y,G9,O8]
 |6,_=>
  simp[hm];refine l7 (b3w 40 1 0 1 i9) ?_;simp[G9,O8,hll];refine l7 (a0o [225] [1] 1 0) ?_;simp[G9,O8,hll];refine l7 (a0o [226] [3] 1 0) ?_;simp[G9,O8,hll];refine hR _ _ ?_;simp[X28,H4,a4Z,a0Y,G9,O8]
 |7,_=>
  simp[hm];refine l7 (a0o [45] [1,5] 0 0) ?_;simp[G9,O8,hll];refine l7 (a0o [49] [5,5] 0 0) ?_;simp[G9,O8,hll];refine l7 (a0o [50] [5,9] 0 0) ?_;simp[G9,O8,hll];refine hR _ _ ?_;simp[X28,H4,a4Z,a0Y,G9,O8]
 |q+8,h=>exact absurd h i9
theorem c7t:F0 27 [0,0,6] [] (TP (H4 0)):=by refine E7 c27 2 (by simp[X27]) fun Q hR hN=>?_;have hb:=b3A 0;simp[X27];refine l7 hb ?_;simp;refine hR _ _ ?_;simp[X27]
structure RW where
 p:By
 c:By
 l:UInt8
 r:UInt8
 w0:UInt8
 w1:UInt8
abbrev RWP(x:RW):PV:=.agg [.slc (x.p.map UB),.slc (x.c.map UB),UB x.l,UB x.r,UB x.w0,UB x.w1]
def b9V:List Nat:=[63,63,2,8,17,62,4,1]
def b3O:By:=[97,98,99,65,66,49,50,45,46]
def ccs:List Nat:=[1,3,9,5,7,32,44,60]
def a3C(i:Nat):Nat:=b9V.getD i 0
def a2p(i:Nat):Nat:=ccs.getD i 0
def a2L(b:UInt8):UInt8:=b3O.getD (b.toNat%9) 0
def ccB(b:UInt8):Nat:=a2p (b.toNat%8)
def a5D(x:RW)(m:Nat):N9:=⟨(x.p.take 3).map a2L,a2p (x.l.toNat/8%8)::(x.c.take 2).map ccB,a3C (x.l.toNat%8),a3C (x.r.toNat%8),x.w0.toNat%m,x.w1.toNat%m⟩
abbrev RU(r:N9):PV:=.agg [St r.print,.uslc (r.cells.map UN),UN r.left,UN r.right,IN r.src,IN r.dst]
theorem b7d:∀i,(h:i<8)→([.int .u8 63,.int .u8 63,.int .u8 2,.int .u8 8,.int .u8 17,.int .u8 62,.int .u8 4,.int .u8 1]:List PV)[i]=UN (a3C i)
 |0,_=>rfl
 |1,_=>rfl
 |2,_=>rfl
 |3,_=>rfl
 |4,_=>rfl
 |5,_=>rfl
 |6,_=>rfl
 |7,_=>rfl
 |i+8,h=>absurd h i9
theorem b4U:∀i,(h:i<8)→([.int .u8 1,.int .u8 3,.int .u8 9,.int .u8 5,.int .u8 7,.int .u8 32,.int .u8 44,.int .u8 60]:List PV)[i]=UN (a2p i)
 |0,_=>rfl
 |1,_=>rfl
 |2,_=>rfl
 |3,_=>rfl
 |4,_=>rfl
 |5,_=>rfl
 |6,_=>rfl
 |7,_=>rfl
 |i+8,h=>absurd h i9
theorem c7K:∀j,j<9→(List.drop j [97,98,99,65,66,49,50,45,46]).take 1=[b3O.getD j 0]
 |0,_=>rfl
 |1,_=>rfl
 |2,_=>rfl
 |3,_=>rfl
 |4,_=>rfl
 |5,_=>rfl
 |6,_=>rfl
 |7,_=>rfl
 |8,_=>rfl
 |j+9,h=>absurd h i9
theorem c2b(x:RW)(m:Nat)(hm:1≤m)(hm2:m≤8)(hp:x.p.length≤9223372036854775807)(hc:x.c.length≤9223372036854775807):F0 32 [0,1,0,0,0,0] [RWP x,IN m] (RU (a5D x m)):=by
 refine E7 c32 13 (by simp[X32]) fun Q hR hN=>?_;have lt:=x.l.toNat_lt;have rt:=x.r.toNat_lt;have w0t:=x.w0.toNat_lt;have w1t:=x.w1.toNat_lt;obtain⟨il,hil⟩:=p8 (x.l.toNat%8);obtain⟨ir,hir⟩:=p8 (x.r.toNat%8);have h1:(x.l.toNat:Int).tmod 8=(il:Int):=by rw[hil];rfl
 have h2:(x.r.toNat:Int).tmod 8=(ir:Int):=by rw[hir];rfl
 have hil8:il<8:=i9;have hir8:ir<8:=i9;have hm1:=b7d il hil8;have hm2':=b7d ir hir8;have hq0:IntKind.i64.wrap (x.w0.toNat:Int)=(x.w0.toNat:Int):=O5;have hq1:IntKind.i64.wrap (x.w1.toNat:Int)=(x.w1.toNat:Int):=O5;obtain⟨q0,hq00⟩:=p8 (x.w0.toNat%m);obtain⟨q1,hq10⟩:=p8 (x.w1.toNat%m);have hw0:(x.w0.toNat:Int).tmod (m:Int)=(q0:Int):=by rw[hq00];rfl
 have hw1:(x.w1.toNat:Int).tmod (m:Int)=(q1:Int):=by rw[hq10];rfl
 have hmz:¬((m:Int)=0):=i9;have hmz':¬(m=0):=i9;simp[X32,h1,h2,hil8,hir8,hm1,hm2',hq0,hq1,hw0,hw1,hmz,hmz'];refine I2 (fun(k:Nat) vs h=>k≤3∧k≤x.p.length∧vs=[.uu,.uu,.ptr 8 1 0,.ptr 9 1 0,.str ⟨#[97,98,99,65,66,49,50,45,46]⟩,.uu,.ptr 10 1 0,IN k,.uu,.uu,.uu,.uu,.uu]∧
  h=[dd,dd,dd,dd,dd,dd,dd,dd,(1,.var [.slc (x.p.map UB),.slc (x.c.map UB),UB x.l,UB x.r,UB x.w0,UB x.w1]),(1,.var [St [],.nils,UN 0,UN 0,IN 0,IN 0]),(1,.var [St ((x.p.take k).map a2L),.nils,UN (a3C il),UN (a3C ir),IN q0,IN q1]),dd,dd]) (fun k=>3-k) 0 ?_ ?_
 . simp
 . rintro k vs h ⟨g1,g2,rfl,rfl⟩ Q' hK hX hR';have hlen:((x.p.take k).map a2L).length=k:=(by grind);by_cases hkk:k<x.p.length∧k<3
   . obtain⟨hk,hk3⟩:=hkk;have hw:=wk1 k i9;obtain⟨b,hb⟩:=p8 (x.p[k]);obtain⟨j,hj⟩:=p8 (b.toNat%9);have hj1:(b.toNat:Int).tmod 9=(j:Int):=(by rw[hj];rfl);have hj9:j<9:=i9;have hwj:IntKind.i64.wrap (j:Int)=(j:Int):=O5;have hwj2:IntKind.i64.wrap ((j:Int)+1)=(j:Int)+1:=O5;have hi1:(j:Int)≤(j:Int)+1:=i9;have hi2:(j:Int)+1≤9:=i9;have hal:=c7K j hj9;have hab:b3O.getD j 0=a2L b:=(by unfold a2L;rw[←hj]);rw[hab]at hal;have hpn:(x.p.take (k+1)).map a2L=(x.p.take k).map a2L++[a2L b]:=by
      rw[J2,l9 hk,S8,←hb];rfl
     obtain⟨pr,hpr⟩:=p8 ((x.p.take k).map a2L);rw[←hpr]at hlen hpn;rw[←hpr];have hadd:¬(9223372036854775807:Int)<(pr.length:Int)+1:=i9;obtain⟨pr2,hpr2⟩:=p8 (pr++[a2L b]);rw[←hpr2]at hpn;simp[hk,hk3,←hb,hj1,hj9,hwj,hwj2,hw,hi1,hi2,hal,hadd,←hpr2];refine hK (k+1) _ _ i9 ?_;rw[hpn];simp;omega
   . have hPF:(x.p.take k).map a2L=(x.p.take 3).map a2L:=by
      rcases a5M k 3 with h3|h3
      . grind
      . rw[show k=3 by omega]
     rw[hPF];obtain⟨PF,hPF2⟩:=p8 ((x.p.take 3).map a2L);rw[←hPF2];have hor:(k<x.p.length∧¬k<3)∨(¬k<x.p.length∧True):=(by grind);obtain⟨ic,hic⟩:=p8 (x.l.toNat/8%8);have hdv:IntKind.u8.wrap ((x.l.toNat:Int)/8)=((x.l.toNat/8:Nat):Int):=b1t i9 i9;have hdm:((x.l.toNat/8:Nat):Int).tmod 8=(ic:Int):=(by rw[hic];rfl);have hic8:ic<8:=i9;have hcg:=b4U ic hic8;generalize((x.l.toNat/8:Nat):Int)=ld at hdv hdm;rcases hor with⟨h1,h2⟩|⟨h1,h2⟩<;>simp[h1,h2]<;>(
      refine hX _ _ _ ?_;simp[hdv,hdm,hic8,hcg];refine I2 (fun(k:Nat) vs h=>k≤2∧k≤x.c.length∧vs=[.uu,.uu,.ptr 8 1 0,.ptr 9 1 0,.uu,.uu,.ptr 10 1 0,.uu,.uu,.own 11 1 8 1 0 8,IN k,.uu,.uu]∧
       h=[dd,dd,dd,dd,dd,dd,dd,dd,(1,.var [.slc (x.p.map UB),.slc (x.c.map UB),UB x.l,UB x.r,UB x.w0,UB x.w1]),(1,.var [St [],.nils,UN 0,UN 0,IN 0,IN 0]),(1,.var [St PF,.own 12 1 (k+1) 1 0 (k+1),UN (a3C il),UN (a3C ir),IN q0,IN q1]),(1,.arr 1 0 false [.int .u8 1,.int .u8 3,.int .u8 9,.int .u8 5,.int .u8 7,.int .u8 32,.int .u8 44,.int .u8 60]),(1,.arr 1 0 false ((a2p ic::(x.c.take k).map ccB).map UN))]) (fun k=>2-k) 0 ?_ ?_
      . simp
      . rintro k vs h ⟨q1',q2,rfl,rfl⟩ Q2 hK2 hX2 hR2;have hlen:(a2p ic::(x.c.take k).map ccB).length=k+1:=(by grind);by_cases hkk:k<x.c.length∧k<2
        . obtain⟨hk,hk2⟩:=hkk;have hw:=wk1 k i9;obtain⟨b,hb⟩:=p8 (x.c[k]);obtain⟨j,hj⟩:=p8 (b.toNat%8);have hj1:(b.toNat:Int).tmod 8=(j:Int):=(by rw[hj];rfl);have hj8:j<8:=i9;have hcj:=b4U j hj8;have hcb:a2p j=ccB b:=(by unfold ccB;rw[←hj]);rw[hcb]at hcj;have hpn:a2p ic::(x.c.take (k+1)).map ccB=(a2p ic::(x.c.take k).map ccB)++[ccB b]:=by
           rw[J2,l9 hk,S8,←hb];rfl
          obtain⟨cs,hcs⟩:∃cs,cs=a2p ic::(x.c.take k).map ccB:=⟨_,rfl⟩
          rw[←hcs]at hlen hpn;rw[←hcs];obtain⟨cs2,hcs2⟩:=p8 (cs++[ccB b]);rw[←hcs2]at hpn;have f1:cs.map UN++[.int .u8 (ccB b)]=cs2.map UN:=(by grind);have f3:k+1+1≤140737488355328:=i9;simp[hk,hk2,←hb,hj1,hj8,hcj,hw,hlen,f1,f3];refine hK2 (k+1) _ _ i9 ?_;rw[hpn];simp;omega
        . have hCF:a2p ic::(x.c.take k).map ccB=a2p ic::(x.c.take 2).map ccB:=by
           rcases a5M k 2 with h3|h3
           . grind
           . rw[show k=2 by omega]
          rw[hCF]at hlen;rw[hCF];obtain⟨CF,hCF2⟩:∃CF,CF=a2p ic::(x.c.take 2).map ccB:=⟨_,rfl⟩
          rw[←hCF2]at hlen;rw[←hCF2];have hrw:a5D x m=⟨PF,CF,a3C il,a3C ir,q0,q1⟩:=(by rw[hPF2,hCF2,hil,hir,hq00,hq10,hic];rfl);rw[hrw]at hR;have hor2:(k<x.c.length∧¬k<2)∨(¬k<x.c.length∧True):=(by grind);rcases hor2 with⟨e1,e2⟩|⟨e1,e2⟩<;>simp[e1,e2]<;>(
           refine hX2 _ _ _ ?_;simp;refine hR _ _ ?_;simp[X32,hlen]
          )
     )
structure RwT where
 base:UInt8
 drop:UInt8
 more:List RW
abbrev RwP(x:RwT):PV:=.agg [UB x.base,UB x.drop,.slc (x.more.map RWP)]
def kept(d:UInt8)(L:List N9)(k:Nat):List N9:=(List.range k).filterMap fun i=>if bit d.toNat i then none else L[i]?
theorem c8C{m k:Nat}(hm:m<256)(hk:k<8):(a4N .u8 ((m:Int).fdiv (2^(min ((k:Int)).toNat 8))) 1=0)=(bit m k=false):=by
 have:∀n:Fin 256,∀j:Fin 8,(decide (a4N .u8 (((n.val:Nat):Int).fdiv (2^(min ((j.val:Nat):Int).toNat 8))) 1=0))=decide (bit n.val j.val=false):=by decide+kernel
 have h:=this ⟨m,hm⟩ ⟨k,hk⟩
 grind
theorem b7S(d:UInt8)(L:List N9){k:Nat}(hk:k<L.length):kept d L (k+1)=if bit d.toNat k then kept d L k else kept d L k++[L[k]]:=by
 unfold kept;rw[a2F,b4J]
 grind
theorem c7O:∀k:Fin 8,(R1 (H4 k.val)&&decide ((H4 k.val).modes≤2)&&decide ((H4 k.val).rules.length≤8)&&(H4 k.val).rules.all fun r=>decide (r.cells.length≤3))=true:=by decide+kernel
theorem b3P(k:Nat)(hk:k<8):s5 (H4 k)∧(H4 k).modes≤2∧(H4 k).rules.length≤8∧∀r∈(H4 k).rules,r.cells.length≤3:=by have h:=c7O ⟨k,hk⟩;simp only[E6,decide_eq_true_eq,A8]at h;exact⟨(a6i _).1 h.1.1.1,h.1.1.2,h.1.2,h.2⟩
theorem s5.sub{t:j9}(h:s5 t){L:List N9}(hs:L.Sublist t.rules)(hn:L≠ []):s5 ⟨t.modes,t.accept,L⟩:=
 ⟨h.m1,h.m8,h.a0,h.a8,a2k.2 hn,S7 hs.length_le h.l64,fun r hr=>h.sound r (hs.subset hr),h.nodup.sublist hs⟩
theorem c9k(d:UInt8)(L:List N9):(kept d L L.length).Sublist L:=by
 have key:∀k,k≤L.length→(kept d L k).Sublist (L.take k):=by
  intro k
  induction k with
  |zero=>intro _;exact List.nil_sublist _
  |succ k ih=>
   intro hk;rw[b7S d L hk,J2,l9 hk];split
   . exact(ih i9).trans (List.sublist_append_left _ _)
   . exact(ih i9).append (List.Sublist.refl _)
 grind
structure Mk(b:j9)(rs:List N9)(i:Nat):Prop where
 len:rs.length≤8+i
 c3:∀r∈rs,r.cells.length≤3
 val:rs≠ []→s5 ⟨b.modes,b.accept,rs⟩
theorem c6d(w:RW){m:Nat}(h1:1≤m)(h8:m≤8):OkR (a5D w m):=by
 have mk:∀i,a3C i<256:=fun i=>by
  unfold a3C;rcases a5M i 8 with h|h
  . have:∀n:Fin 8,b9V.getD n.val 0<256:=H6;exact this ⟨i,h⟩
  . rw[u9,a0f (by exact h)];decide
 have ck:∀i,a2p i<256:=fun i=>by
  unfold a2p;rcases a5M i 8 with h|h
  . have:∀n:Fin 8,ccs.getD n.val 0<256:=H6;exact this ⟨i,h⟩
  . rw[u9,a0f (by exact h)];decide
 refine⟨?_,?_,fun c hc=>?_,mk _,mk _,?_,?_⟩
 . unfold a5D;simp only[I8,a1G];omega
 . unfold a5D;simp only[Z3,I8,a1G];omega
 . unfold a5D at hc;rcases Z5.1 hc with rfl|hc
   . exact ck _
   . obtain⟨b,_,rfl⟩:=E9.1 hc;exact ck _
 . have:w.w0.toNat%m<m:=Nat.mod_lt _ i9;show w.w0.toNat%m≤1000000;omega
 . have:w.w1.toNat%m<m:=Nat.mod_lt _ i9;show w.w1.toNat%m≤1000000;omega
theorem c8V{b:j9}(hb:s5 b){rs rs2:List N9}{i:Nat}(hm:Mk b rs i){r:N9}(h2:rs2=rs++[r])(hr:OkR r)(hi:i≤2):OkT ⟨b.modes,b.accept,rs2⟩:=by
 refine⟨hb.ok.modes,hb.ok.accept,?_,fun q hq=>?_⟩
 . have:=hm.len
   grind
 . have hq:q∈rs2:=hq;rw[h2]at hq;rcases G7.1 hq with hq|hq
   . exact(hm.val (List.ne_nil_of_mem hq)).ok.a1i q hq
   grind
structure LMd where
 (i:Nat)
 (rs:List N9)
 (es:List PV)
theorem b3Z(x:RwT)(hx:∀w∈x.more,w.p.length≤9223372036854775807∧w.c.length≤9223372036854775807)(hl:x.more.length≤9223372036854775807):∃r,(∃(t:j9) (c:PV),r=.agg [IN t.modes,UN t.accept,c]∧(c=.slc (t.rules.map RP)∨∃es,c=.uslc es∧es.map B3=t.rules.map RP∧∀e∈es,D4 e=true)∧s5 t∧Sm t∧t.rules.length≤10)∧F0 8 [0,0,6] [RwP x] r:=by
 refine a2x mixed (X:=X8) c8 14 (by simp[X8]) (by kernel_rfl) fun Q hR hN=>?_;have hb:=b3A x.base;obtain⟨b,hb0⟩:=p8 (H4 (x.base.toNat%8));rw[←hb0]at hb;simp[X8];refine l7 hb ?_;simp;obtain⟨hbv,hbm2,hbl,hbc⟩:s5 b∧b.modes≤2∧b.rules.length≤8∧∀r∈b.rules,r.cells.length≤3:=by rw[hb0];exact b3P _ i9
 have hd:=x.drop.toNat_lt;have hdd:x.drop.toNat<256:=hd;refine I2 (fun(k:Nat) vs h=>k≤b.rules.length∧vs=[.uu,.ptr 10 1 0,.ptr 11 1 0,.ptr 12 1 0,.slc (b.rules.map RP),IN k,.uu,.uu,.uu,.uu,.uu,.uu]∧
  h=[dd,dd,dd,dd,dd,dd,dd,dd,dd,dd,(1,.var [UB x.base,UB x.drop,.slc (x.more.map RWP)]),(1,.var [IN 0,UN 0,.nils]),(1,.var [IN b.modes,UN b.accept,.own 13 1 (kept x.drop b.rules k).length 6 0 (kept x.drop b.rules k).length]),(1,.arr 6 0 false ((kept x.drop b.rules k).map RP))]) (fun k=>b.rules.length-k) 0 ?_ ?_
 . simp[kept]
 . rintro k vs h ⟨g1,rfl,rfl⟩ Q' hK hX hR';by_cases hk:k<b.rules.length
   . have hw:=wk1 k i9;have hz:=c8C hdd (show k<8 by omega);have hks:=b7S x.drop b.rules hk;obtain⟨K,hKd⟩:=p8 (kept x.drop b.rules k);rw[←hKd]at hks;rw[←hKd];simp at hz;cases hbt:bit x.drop.toNat k
     . rw[hbt]at hz hks;simp at hz;obtain⟨K2,hK2⟩:=p8 (K++[b.rules[k]]);have hks:kept x.drop b.rules (k+1)=K2:=(by rw[hks,hK2];rfl);have f1:K.map RP++[RP b.rules[k]]=K2.map RP:=(by rw[hK2,S8];rfl);have f2:K.length+1=K2.length:=(by rw[hK2];simp);have hKl:K.length≤k:=by
        rw[hKd];unfold kept
        grind
       have f3:K2.length*64≤140737488355328:=i9;simp[hk,IntKind.bits,hz,f1,f2,f3,hw];refine hK (k+1) _ _ i9 ?_;rw[hks];simp;omega
     . rw[hbt]at hz hks;simp at hz;have hks:kept x.drop b.rules (k+1)=K:=(by rw[hks];rfl);simp[hk,IntKind.bits,hz,hw];refine hK (k+1) _ _ i9 ?_;rw[hks];simp;omega
   . obtain rfl:k=b.rules.length:=i9;simp;refine hX _ _ _ ?_;obtain⟨K,hKd⟩:=p8 (kept x.drop b.rules b.rules.length);rw[←hKd];have hmk:Mk b K 0:=by
      have hsub:K.Sublist b.rules:=(by rw[hKd];exact c9k _ _);exact⟨S7 hsub.length_le hbl,fun r hr=>hbc r (hsub.subset hr),fun hne=>hbv.sub hsub hne⟩
     have hbm1:1≤b.modes:=hbv.m1;have hfzb:(b.rules.map RP).map B3=b.rules.map RP:=(by rw[a1f];exact L9 fun _ _=>rfl);have hnrb:∀e∈b.rules.map RP,D4 e=true:=fun e he=>by obtain⟨r,_,rfl⟩:=E9.1 he;rfl
     simp;refine I2 (fun(y:LMd) vs h=>y.i≤2∧y.i≤x.more.length∧Mk b y.rs y.i∧(y.es.take y.rs.length).map B3=y.rs.map RP∧y.rs.length≤y.es.length∧y.es.length≤10∧(∀e∈y.es,D4 e=true)∧
      vs=[.uu,.ptr 10 1 0,.ptr 11 1 0,.ptr 12 1 0,.slc (b.rules.map RP),.uu,IN y.i,.uu,.uu,.uu,.uu,.uu]∧
      h=[dd,dd,dd,dd,dd,dd,dd,dd,dd,dd,(1,.var [UB x.base,UB x.drop,.slc (x.more.map RWP)]),(1,.var [IN 0,UN 0,.nils]),(1,.var [IN b.modes,UN b.accept,.own 13 1 y.es.length 6 0 y.rs.length]),(1,.arr 6 0 false y.es)]) (fun y=>2-y.i) ⟨0,K,K.map RP⟩ ?_ ?_
     . have hKl:K.length≤8:=hmk.len;have hfz:List.map (B3∘RP) K=K.map RP:=L9 fun _ _=>rfl;have hnrK:∀e∈K.map RP,D4 e=true:=fun e he=>by
        obtain⟨r,_,rfl⟩:=E9.1 he;rfl
       simp[hmk];omega
     . rintro⟨i,rs,es⟩ vs h ⟨y1,y2,y3,y4,y5,y6,y7,rfl,rfl⟩ Q2 hK2 hX2 hR2;dsimp only at y1 y2 y3 y4 y5 y6 y7;by_cases hii:i<x.more.length∧i<2
       . obtain⟨hi,hi2⟩:=hii;have hw:=wk1 i i9;obtain⟨w,hwd⟩:=p8 (x.more[i]);obtain⟨x1,x2⟩:=hx w (by rw[hwd];exact B7 hi);have hrf:=c2b w b.modes hbm1 i9 x1 x2;obtain⟨r,hr⟩:=p8 (a5D w b.modes);rw[←hr]at hrf;obtain⟨rs2,hrs2⟩:=p8 (rs++[r]);have hl2:rs.length+1=rs2.length:=(by rw[hrs2];simp);have hrc:r.cells.length≤3:=(by rw[hr];unfold a5D;simp;omega);have ht2:OkT ⟨b.modes,b.accept,rs2⟩:=c8V hbv y3 hrs2 (by rw[hr];exact c6d w hbv.m1 hbv.m8) y1;have hva:=c2Z ⟨b.modes,b.accept,rs2⟩ ht2;have hyes:R1 ⟨b.modes,b.accept,rs2⟩=true→Mk b rs2 (i+1):=fun h=>⟨by have:=y3.len;omega,fun q hq=>by
          rw[hrs2]at hq;rcases G7.1 hq with hq|hq
          . exact y3.c3 q hq
          . rw[F7.1 hq];exact hrc,fun _=>(a6i _).1 h⟩
         have hno:Mk b rs (i+1):=⟨by have:=y3.len;omega,y3.c3,y3.val⟩
         have hb64:(rs.length+1)*64≤140737488355328:=(by have:=y3.len;omega);have hrl:rs.length≤9:=(by have:=y3.len;omega);have htk2:∀es2:List PV,(es2.take rs2.length).map B3=rs2.map RP→(es2.map B3).take rs.length=rs.map RP:=fun es2 h=>by have h2:((es2.take rs2.length).map B3).take rs.length=rs.map RP:=(by rw[h,hrs2,S8,List.take_left' k7]);rw[←a3v,List.take_take,show min rs.length rs2.length=rs.length by omega,a3v]at h2;exact h2
         have hsub:IntKind.i64.wrap ((rs2.length:Int)-1)=(rs.length:Int):=(by rw[←hl2];exact(wrap_ok i9 i9).trans i9);simp[hi,hi2,←hwd];refine l7 hrf ?_;by_cases hle:rs.length=es.length
         . obtain⟨es2,hes2⟩:=p8 (es++[RU r]);have f1:es++[RU r]=es2:=hes2.symm;have f2:es2.length=rs2.length:=(by rw[hes2,←hl2,hle];simp);have f3:List.map B3 es2=rs2.map RP:=by
            rw[hle,J7]at y4;rw[hes2,hrs2,S8,S8,y4];rfl
           have f4:∀e∈es2,D4 e=true:=fun e he=>by
            rw[hes2]at he;rcases G7.1 he with he|he
            . exact y7 e he
            . rw[F7.1 he];rfl
           have f4':(∀e∈es2,D4 e=true)=True:=eq_true f4;have f5:es.length+1=rs2.length:=i9;simp[hle,f1,f2,f5,f3,f4',show es.length*64+64≤140737488355328 by omega,show rs2.length*64≤140737488355328 by omega];refine l7 hva ?_;cases hvb:R1 ⟨b.modes,b.accept,rs2⟩with
           |true=>
            simp[hw];refine hK2 ⟨i+1,rs2,es2⟩ _ _ m7 ?_;simp[f2,f3,f4'];exact⟨i9,i9,hyes hvb,i9⟩
           |false=>
            simp[hw,hsub,show rs.length≤rs2.length by omega];refine hK2 ⟨i+1,rs,es2⟩ _ _ m7 ?_;have f6:=htk2 es2 (by rw[←f2,J7];exact f3);simp[f2,f4',f6];exact⟨i9,i9,hno,i9,i9⟩
         . obtain⟨es2,hes2⟩:∃es2,es2=es.take rs.length++RU r::es.drop rs2.length:=⟨_,rfl⟩
           have f1:es.take rs.length++RU r::es.drop rs2.length=es2:=hes2.symm;have f2:es2.length=es.length:=(by rw[hes2,a0u,a1G,Z3,a2X];omega);have ftk:es2.take rs2.length=es.take rs.length++[RU r]:=by rw[hes2,←hl2,List.take_append,a1G,List.take_take];rw[show min rs.length es.length=rs.length by omega,show min (rs.length+1) rs.length=rs.length by omega,show rs.length+1-rs.length=1 by omega];rfl
           have f3:List.map B3 (es2.take rs2.length)=rs2.map RP:=by rw[ftk,hrs2,S8,S8,y4];rfl
           have f4:∀e∈es2,D4 e=true:=fun e he=>by
            rw[hes2]at he;rcases G7.1 he with he|he
            . exact y7 e (List.mem_of_mem_take he)
            . rcases Z5.1 he with he|he
              . rw[he];rfl
              grind
           have f4':(∀e∈es2,D4 e=true)=True:=eq_true f4;simp[hle,f1,f2,f3,f4',hl2,y5,show rs2.length≤es.length by omega,show rs.length*64+64≤140737488355328 by omega,show rs2.length*64≤140737488355328 by omega];refine l7 hva ?_;have f6:=htk2 es2 f3;have f7:List.take rs2.length (List.map B3 es2)=rs2.map RP:=(by rw[←a3v];exact f3);cases hvb:R1 ⟨b.modes,b.accept,rs2⟩with
           |true=>
            simp[hw];refine hK2 ⟨i+1,rs2,es2⟩ _ _ m7 ?_;simp[f2,f7,f4'];exact⟨i9,i9,hyes hvb,i9,y6⟩
           |false=>
            simp[hw,hsub,show rs.length≤es.length by omega,show rs.length≤rs2.length by omega];refine hK2 ⟨i+1,rs,es2⟩ _ _ m7 ?_;simp[f2,f4',f6];exact⟨i9,i9,hno,i9,i9⟩
       . have hor:(i<x.more.length∧¬i<2)∨(¬i<x.more.length∧True):=by
          by_cases h:i<x.more.length
          . exact .inl ⟨h,fun h2=>hii ⟨h,h2⟩⟩
          . exact .inr ⟨h,trivial⟩
         by_cases hrs:rs=[]
         . subst hrs;rcases hor with⟨e1,e2⟩|⟨e1,e2⟩<;>simp[e1,e2]<;>(
            refine hX2 _ _ _ ?_;simp;refine hR _ _ _ ⟨b,_,rfl,.inl rfl,hbv,⟨hbm2,i9,hbc⟩,i9⟩ ?_;simp[X8]
           )
         . have hrl:0<rs.length:=a2k.2 hrs;have hr0:¬rs.length=0:=i9;have f8:(∀e∈es,D4 e=true)=True:=eq_true y7;rcases hor with⟨e1,e2⟩|⟨e1,e2⟩<;>simp[e1,e2]<;>(
            refine hX2 _ _ _ ?_;simp[hr0];refine hR _ _ _ ⟨⟨b.modes,b.accept,rs⟩,_,rfl,.inr ⟨es.take rs.length,rfl,y4,fun e he=>y7 e (List.mem_of_mem_take he)⟩,y3.val hrs,⟨hbm2,by have:=y3.len;dsimp only;omega,y3.c3⟩,by have:=y3.len;dsimp only;omega⟩ ?_;simp[X8,y5,f8]
            try (intro h;rw[h,J7])
           )
def X7:A0:=
 ⟨65,[0,1,2,4,5,7,8,9],8,[(0,none)],sq [kj 0,.reg [ofd 27 0 0 0 0 0 6,ocb 1 1 0 0,ol 3 1 0],.reg [ok 3 1,oq (.call 11 [.l 0,.c (.str ⟨#[97,98,32,99]⟩)] [(2,1),(3,1),(0,0),(0,0)] false),oo 1,oz 2 0,oz 2 1,oz 2 2,odv 2 4,ol 2 6 3,oo 4,oc 3 5],.reg [ok 3 1,oq (.lit 1 [.int .u8 0,.int .u8 0,.int .u8 0,.int .u8 0] [(0,.c (.int .u8 1)),(1,.c (.int .u8 3)),(2,.c (.int .u8 0)),(3,.c (.int .u8 9))]),oq (.call 12 [.l 0,.l 1] [(0,0),(0,0),(0,0)] false),oo 2,oz 3 0,oz 3 1,oz 3 2,oc 4 4,oo 5,oc 5 6],.reg [oq (.call 28 [.c (.int .u8 4)] [(0,0),(0,0),(5,6)] false),oq (.call 17 [.l 0] [(6,1),(0,0),(0,0),(0,0)] false),oo 1,oz 2 0,oz 2 1,ow 6 (.alloc 7 [.nils,.str ⟨#[]⟩,.str ⟨#[]⟩]),ol 3 5 3,oc 7 4],.reg [oa 3,obw 0 0,oo 1,oj 0 2 2,od 1 3 2,⟨.lit 1 [.int .u8 0,.int .u8 0,.int .u8 0,.int .u8 0] [(0,.c (.int .u8 1)),(1,.c (.int .u8 3)),(2,.c (.int .u8 0)),(3,.c (.int .u8 9))],none,some (.l 2,true),[]⟩,oba 29 4 5 0 0 2,oh 2 6,oo 7,og 5 8,obq 9 0 8,oh 8 10,oo 11,og 4 12,⟨.bin .eql false (.l 13) (.c (.str ⟨#[97,98,32,99]⟩)),none,some (.l 12,true),[]⟩,oh 12 14,oo 15,og 7 16,obq 17 50 16,oh 16 18,oo 19,oj 1 6 20,od 1 21 20,oj 2 6 20,od 1 23 20,⟨.bin .neq false (.l 22) (.l 24),none,some (.l 20,true),[]⟩,oh 20 25,oo 26,obj 3 1 27,oeo 9 28 0 0 27,oh 27 29,oo 30,obj 3 1 31,⟨.call 31 [] [(0,0),(0,0),(0,0)] true,none,some (.l 31,true),[]⟩,oba 30 32 33 0 0 31,oh 31 34,oc 0 35],ko]⟩
def X3:A0:=
 ⟨134,[0,1,2,3,6,7,8,9,10,11,12,13,15,16,18,19,21,22,34,64,72],10,[(4,none)],sq [kag 3 0 0 4,.reg [oq (.call 7 [] [(0,0)] false),oc 5 0],.reg [ok 3 3,oq (.call 8 [.l 0] [(0,0),(0,0),(1,6)] false),ocb 6 2 0 0,ol 3 2 1],sq [.G6 [(1,true),(2,false)] (.reg [oe 2 6,ob 1 0,ox 1,ock 2 2,oo 3,odj 3 6 4,odd 9 5 0 0 4,oco 6 4,Z8 18 4 7]),.cond (.v 18) (sq [kf 5 4 0,ko]) kd],.reg [oa 2,oq (.conv .i64 (.l 0)),oe 2 6,ob 1 2,ox 3,oq (.bin .rem false (.l 1) (.l 4)),oc 7 5],.reg [⟨.fieldAddr 0 (.v 6),none,none,[3,3,5]⟩,⟨.loadV false 1 (.l 0),none,none,[3,3,5]⟩,⟨.fieldAddr 1 (.v 6),none,none,[3,3,5]⟩,⟨.loadV false 1 (.l 2),none,none,[3,3,5]⟩,⟨.mkarr 3 6 [] [],none,none,[5]⟩,ofc 2 6 3 5,ocq 1 5 3 5,obs 7 3 5,⟨.slice false 6 (.l 6) none (some (.l 7)) none,none,none,[3,5]⟩,⟨.append 3 6 64 2 (.l 4) (.l 8),none,none,[5]⟩,⟨.build [.int .i64 0,.int .u8 0,.nils] [(0,1,.l 1),(1,1,.l 3),(2,1,.l 9)],none,none,[5]⟩,⟨.alloc 5 [.int .i64 0,.int .u8 0,.nils],some 8,none,[3,3]⟩,ol 3 11 10],.reg [oe 2 8,ob 1 0,oe 2 6,ob 1 2,oa 7,oah 4 1,oda 6 3 5,I7 6 6 64 0 1 6,oe 2 8,ol 1 8 7],sq [.reg [ok 3 8,W4 9 0 0 0,obb 19 1],.cond (.v 19) (kao 4) kd],.reg [ok 3 8,oa 1,ocl 10 0 1 0 0 0 0,oo 2,oz 3 0,oz 3 1,oc 9 4,oc 10 5],sq [kaa 10 20 0,.cond (.v 20) (sq [kf 5 4 0,ko]) kd],.reg [ok 3 8,oa 9,oq (.call 11 [.l 0,.l 1] [(7,1),(8,1),(0,0),(0,0)] false),oo 2,oz 3 0,oz 3 1,oz 3 2,odv 11 9,ol 2 7 4,oo 5,oc 12 6],.reg [ok 3 8,oe 0 11,ob 1 1,oq (.call 12 [.l 0,.l 2] [(0,0),(0,0),(0,0)] false),oo 3,oz 4 0,oz 4 1,oz 4 2,oc 13 5,oo 6,oc 14 7],.reg [ok 3 6,oe 0 11,ob 1 1,oq (.call 12 [.l 0,.l 2] [(0,0),(0,0),(0,0)] false),oo 3,oz 4 0,oz 4 1,oz 4 2,oc 15 5,oo 6,oc 16 7],.reg [ok 3 6,oa 9,Y6 13 0 1 0 0,oc 17 2],.reg [oa 5,oo 0,og 12 1,obq 2 0 1,oh 1 3,oo 4,og 14 5,obq 6 0 5,oh 5 7,oo 8,og 16 9,obq 10 0 9,oh 9 11,oo 12,og 13 13,og 9 13,oaq 14 15 13,oh 13 16,oo 17,og 15 18,og 9 18,oaq 19 20 18,oh 18 21,oo 22,og 17 23,ofg 24 0 23,oh 23 25,oo 26,og 17 27,oj 0 11 27,od 1 29 27,obn 30 27,ods 28 31 27,oh 27 32,oc 4 33],ko]⟩
def X4:A0:=
 ⟨120,[0,1,2,4,5,6,7,8,9,10,12,13,14,15,16,32,83],11,[(3,none)],sq [kag 2 0 0 3,.reg [oq (.call 7 [] [(0,0)] false),oc 4 0],.reg [ok 3 2,oq (.call 8 [.l 0] [(0,0),(0,0),(1,6)] false),ocb 5 2 0 0,ol 3 2 1],.G6 [(1,true),(2,false)] (.reg [ok 3 5,oa 1,ocl 14 0 1 3 1 0 0,oo 2,oz 3 0,oz 3 1,oc 6 4,oc 7 5]),sq [.reg [oa 7,oej 0,oo 1,odj 3 5 2,odd 9 3 0 0 2,oco 4 2,Z8 15 2 5],.cond (.v 15) (sq [kf 4 3 0,ko]) kd],.reg [ok 3 5,oa 6,oq (.call 15 [.l 0,.l 1] [(0,0),(4,1),(0,0),(0,0),(0,0),(0,0),(0,0)] false),oci 8 5 0 0 0 0,ol 7 3 2],.reg [ok 3 5,oe 0 8,ob 1 1,oq (.call 11 [.l 0,.l 2] [(6,1),(7,1),(0,0),(0,0)] false),oo 3,oz 4 0,oz 4 1,oz 4 2,odv 9 8,ol 2 8 5,oo 6,oc 10 7],.reg [ok 3 5,oe 1 8,ob 1 1,oq (.call 16 [.l 0,.l 2,oi 4] [(9,1),(0,0)] false),oo 3,oz 4 0,oz 4 1,oc 11 5,oc 12 6],.reg [ok 3 5,oe 0 9,ob 1 1,oq (.call 16 [.l 0,.l 2,oi 4] [(10,1),(0,0)] false),oo 3,oz 4 0,oz 4 1,oc 13 5,oc 14 6],sq [.reg [oe 6 8,ob 1 0,oej 1,oo 2,N3 10 3,ocn 4 0 3,P5 3 5,oo 6,N3 12 7,ocn 8 0 7,P5 7 9,oo 10,N3 14 11,ocn 12 0 11,P5 11 13,oo 14,N3 11 15,obh 16 15,ocn 17 1 15,P5 15 18,oo 19,N3 13 20,obh 21 20,ocn 22 1 20,Z8 16 20 23],.cond (.v 16) (kao 3) kd],.reg [oa 4,oo 0,og 11 1,⟨.indexAddr 1 (.l 2) (oi 0),none,some (.l 1,true),[]⟩,od 1 3 1,oj 0 8 1,od 1 5 1,oaq 4 6 1,oh 1 7,oo 8,og 13 9,⟨.indexAddr 1 (.l 10) (oi 0),none,some (.l 9,true),[]⟩,od 1 11 9,oj 0 8 9,od 1 13 9,oaq 12 14 9,oh 9 15,oo 16,oj 0 9 17,od 1 18 17,obn 19 17,oj 1 8 17,od 1 21 17,obn 22 17,ods 20 23 17,oh 17 24,oo 25,obj 3 5 26,oj 0 8 26,od 1 28 26,oba 13 27 29 0 0 26,oj 0 9 26,od 1 31 26,obn 32 26,oaq 30 33 26,oh 26 34,oc 3 35],ko]⟩
def X5:A0:=
 ⟨130,[0,1,2,3,4,5,6,7,8,9,10,11,12,13,14,24,54,65],6,[(2,none)],sq [kag 1 0 0 2,.reg [oq (.call 7 [] [(0,0)] false),oc 3 0],.reg [ok 3 1,oq (.call 8 [.l 0] [(0,0),(0,0),(1,6)] false),ocb 4 2 0 0,ol 3 2 1],.G6 [(1,true),(2,false)] (.reg [ok 3 4,oq (.call 17 [.l 0] [(3,1),(0,0),(0,0),(0,0)] false),oo 1,oz 2 0,oz 2 1,ow 5 (.alloc 4 [.nils,.str ⟨#[]⟩,.str ⟨#[]⟩]),ol 3 5 3,oc 6 4]),sq [.reg [oa 6,odw 15 0 0],.cond (.v 15) (sq [.reg [oa 3,oo 0,obj 3 4 1,oeo 9 2 0 0 1,oh 1 3,oo 4,oj 0 5 5,od 1 6 5,obn 7 5,obq 8 0 5,oh 5 9,oc 2 10],ko]) kd],sq [.reg [oa 6,oq (.bin .neq false (.l 0) (oi 50)),oo 1,ov 1 5 2,om 1 3 2,ov 2 5 2,om 1 5 2,obl 4 6 2,P5 2 7,oo 8,odj 3 4 9,odj 3 5 9,⟨.call 18 [.l 10,.l 11] [(0,0)] false,none,some (.l 9,false),[]⟩,oco 12 9,P5 9 13,oo 14,odj 3 4 15,odd 9 16 0 0 15,Z8 16 15 17],.cond (.v 16) (kao 2) kd],.reg [ok 3 4,oe 0 5,ob 1 1,oq (.call 16 [.l 0,.l 2,oi 64] [(5,1),(0,0)] false),oo 3,oz 4 0,oz 4 1,oc 7 5,oc 8 6],.reg [os 9,os 10],sq [kl 11 0,.block 0 (.loopS [3,4,5,7,8,9,10,11] 6 (sq [sq [ks 11 7 1 17 0 2,C4 17 0],.block 1 (.reg [oa 9,oo 0,N3 7 1,N3 11 1,ocx 1 2 3 1,om 1 4 1,ov 1 5 1,om 1 6 1,ocm 5 7 1,P5 1 8,oa 10,oo 10,N3 7 11,N3 11 11,ocx 1 12 13 11,om 1 14 11,ov 2 5 11,om 1 16 11,ocm 15 17 11,P5 11 18,oc 9 9,oc 10 19]),kg 11 0 1 11 1]))],.reg [ok 3 4,oe 1 5,ob 1 1,Y6 13 0 2 0 0,ok 3 4,oe 2 5,ob 1 5,Y6 13 4 6 0 0,oc 12 3,oc 13 7],.reg [oa 8,obw 0 2,oo 1,N3 9 2,⟨.mv (.l 3),none,some (.l 2,false),[]⟩,og 10 4,oep 4 5 2,P5 2 6,oc 14 7],.reg [oa 3,oo 0,og 14 1,oh 1 2,oo 3,og 12 4,ofg 5 0 4,oh 4 6,oo 7,og 13 8,ofg 9 0 8,oh 8 10,oo 11,og 12 12,oj 0 5 12,od 1 14 12,obn 15 12,ods 13 16 12,oh 12 17,oo 18,og 13 19,oj 0 5 19,od 1 21 19,obn 22 19,ods 20 23 19,oh 19 24,oc 2 25],ko]⟩
theorem c7:D0 7 X7:=D3
theorem c3:D0 3 X3:=D3
theorem c4:D0 4 X4:=D3
theorem c5:D0 5 X5:=D3
structure Plc where
 (c b s:Nat)
 deriving DecidableEq
def Rea(t:j9)(l:List Nat)(s:By)(p:Plc):Prop:=p.s<(j4 t).length∧p.c≤l.length∧p.b≤s.length∧∃q,D8 t start q=some ((j4 t).getD p.s B9)∧A9 t q=l.take p.c∧F5 t q=s.take p.b
def pfx(t:j9)(s:By)(i k:Nat):Prop:=prt t k<+:s.drop i
def nxP(t:j9)(p:Plc)(a:Nat×Nat):Plc:=⟨p.c+s7 t a.1,p.b+(prt t a.1).length,a.2⟩
def a9K(t:j9)(l:List Nat)(s:By)(p:Plc):Prop:=p.c=l.length∧p.b=s.length∧B6 t ((j4 t).getD p.s B9)=true
section
variable{t:j9}(ht:s5 t){l:List Nat}{s:By}{K O:List Plc}{p:Plc}
theorem b9f{i k:Nat}(h:pfx t s i k):s.drop i=prt t k++s.drop (i+(prt t k).length)∧(prt t k).length≤s.length-i:=by
 have hl:=h.length_le;rw[a2X]at hl;obtain⟨r,hr⟩:=h;have:s.drop (i+(prt t k).length)=r:=by rw[←a1U,←hr];exact List.drop_left
 exact⟨by rw[this,hr],hl⟩
include ht in
theorem Rea.root:Rea t l s ⟨0,0,0⟩:=⟨a1X ht,C9 _,C9 _,[],by show some start=_;rw[u9,a1T ht];rfl,by simp[A9],by simp[F5]⟩
include ht in
theorem Rea.step(h:Rea t l s p){a:Nat×Nat}(ha:a∈E8 t p.s)(hf:fits t l p.c a.1)(hp:pfx t s p.b a.1):Rea t l s (nxP t p a):=by
 obtain⟨h1,h2,h0,q,h3,h4,h5⟩:=h;obtain⟨s',k1,k2,k3,k4⟩:=a5C h1 ha;have hs':=W7 ht (a1A h1) k1;have hle:=a4C hf;obtain⟨g1,g2⟩:=b9f hp;refine⟨by show a.2<_;rw[k3];exact a3l hs',by show p.c+s7 t a.1≤_;omega,by show p.b+_≤_;omega,q++[a.1],?_,?_,?_⟩
 . rw[a4o,h3];show(T.step t _ a.1).bind _=some ((j4 t).getD a.2 B9);rw[k1,k3,a1R hs'];rfl
 . rw[a7a,h4];have hd:=a8O hf;have e:A9 t [a.1]=cls t a.1:=(by simp[A9,cls]);show _=l.take (p.c+s7 t a.1);rw[e,List.take_add,hd];rw[show s7 t a.1=(cls t a.1).length from rfl,List.take_left]
 . rw[b0W,h5];have e:F5 t [a.1]=prt t a.1:=(by simp[F5,prt]);show _=s.take (p.b+(prt t a.1).length);rw[e,List.take_add,g1,List.take_left]
theorem Rea.lng(h:Rea t l s p)(hf:a9K t l s p):M7 t l s:=by obtain⟨_,_,_,q,h3,h4,h5⟩:=h;obtain⟨f1,f2,f3⟩:=hf;exact⟨q,_,h3,f3,by rw[h4,f1,J7],by rw[h5,f2,J7]⟩
structure PW(t:j9)(l:List Nat)(s:By)(K O:List Plc)(E:Option Plc):Prop where
 nd:K.Nodup
 root:⟨0,0,0⟩∈K
 sub:∀p∈O,p∈K
 reach:∀p∈K,Rea t l s p
 done:∀p∈K,p∉O→some p≠E→¬a9K t l s p∧∀a∈E8 t p.s,fits t l p.c a.1→pfx t s p.b a.1→nxP t p a∈K
 low:∀i p,O[i]?=some p→i≤64*p.c
include ht in
theorem PW.start:PW t l s [⟨0,0,0⟩] [⟨0,0,0⟩] none:=
 ⟨k7,k7,fun p h=>h,fun p h=>by rw[F7.1 h];exact Rea.root ht,fun p h1 h2=>absurd h1 h2,fun i p h=>by
  match i,h with
  |0,_=>exact C9 _⟩
theorem PW.pop(h:PW t l s K (O++[p]) none):PW t l s K O (some p)∧p∈K∧Rea t l s p∧O.length≤64*p.c:=by
 have hp:p∈K:=h.sub p k7;refine⟨⟨h.nd,h.root,fun q hq=>h.sub q (by simp[hq]),h.reach,fun q h1 h2 h3=>h.done q h1 (fun h4=>?_) k7,fun i q hq=>h.low i q ?_⟩,hp,h.reach p hp,?_⟩
 . grind
 . grind
 . exact h.low O.length p k7
include ht in
theorem PW.push(h:PW t l s K O (some p))(hp:p∈K)(hl:O.length<64*(p.c+1)){a:Nat×Nat}(ha:a∈E8 t p.s)(hf:fits t l p.c a.1)(hx:pfx t s p.b a.1)(hn:nxP t p a∉K):PW t l s (K++[nxP t p a]) (O++[nxP t p a]) (some p):=by
 have hr:=h.reach p hp;refine⟨?_,by simp[h.root],fun q hq=>?_,fun q hq=>?_,fun q h1 h2 h3=>?_,fun i q hq=>?_⟩
 . rw[a3Z];exact⟨h.nd,k7,fun x hx y hy e=>hn (by grind)⟩
 . rcases G7.1 hq with hq|hq
   . exact a2D _ (h.sub q hq)
   grind
 . rcases G7.1 hq with hq|hq
   . exact h.reach q hq
   . rw[F7.1 hq];exact hr.step ht ha hf hx
 . have h4:q∈K:=by
    rcases G7.1 h1 with h1|h1
    . exact h1
    . grind
   obtain⟨g1,g2⟩:=h.done q h4 (fun h5=>h2 (a2D _ h5)) h3
   grind
 . by_cases hi:i<O.length
   . rw[a0R hi]at hq;exact h.low i q hq
   . obtain⟨h5,h6⟩:=B4.1 hq;simp only[a0u,a9E]at h5;obtain rfl:i=O.length:=i9;have:q=nxP t p a:=(by grind);subst this;have h8:=(a3m ht hr.1 ha).2.2.1;show O.length≤64*(p.c+s7 t a.1);omega
theorem PW.close(h:PW t l s K O (some p))(hf:¬a9K t l s p)(hc:∀a∈E8 t p.s,fits t l p.c a.1→pfx t s p.b a.1→nxP t p a∈K):PW t l s K O none:=
 ⟨h.nd,h.root,h.sub,h.reach,fun q h1 h2 _=>by
  by_cases e:q=p
  . subst e;exact⟨hf,hc⟩
  . exact h.done q h1 h2 (fun e2=>e (W6 e2)),h.low⟩
include ht in
theorem PW.none(h:PW t l s K [] none):¬M7 t l s:=by
 have go:∀(q:List Nat) (p:Plc) (st:State),p∈K→D8 t ((j4 t).getD p.s B9) q=some st→B6 t st=true→A9 t q=l.drop p.c→F5 t q=s.drop p.b→False:=by
  intro q
  induction q with
  |nil=>
   intro p st hp h1 h2 h3 h4;obtain⟨g1,g2,g3,_⟩:=h.reach p hp;obtain rfl:=W6 h1;have e1:(l.drop p.c).length=0:=(by rw[←h3];rfl);have e2:(s.drop p.b).length=0:=(by rw[←h4];rfl);rw[a2X]at e1 e2;exact(h.done p hp k7 k7).1 ⟨i9,i9,h2⟩
  |cons k q ih=>
   intro p st hp h1 h2 h3 h4;obtain⟨s1,e1,e2⟩:=V1.1 (show(T.step t _ k).bind (fun s'=>D8 t s' q)=some st from h1);have g1:=(h.reach p hp).1;have hs1:=W7 ht (a1A g1) e1;have hm:=a9j g1 e1 ⟨q,st,e2,h2⟩;have hd:l.drop p.c=cls t k++A9 t q:=(by rw[←h3];rfl);obtain⟨f1,f2⟩:=a9Z hd;have hd2:s.drop p.b=prt t k++F5 t q:=(by rw[←h4,a3p];rfl);have f3:pfx t s p.b k:=⟨_,hd2.symm⟩
   have f4:s.drop (p.b+(prt t k).length)=F5 t q:=(by rw[←a1U,hd2];exact List.drop_left);exact ih (nxP t p (k,P7 t s1)) st ((h.done p hp k7 k7).2 _ hm f1 f3) (by show D8 t ((j4 t).getD (P7 t s1) B9) q=_;rw[a1R hs1];exact e2) h2 f2.symm f4.symm
 intro⟨q,st,h1,h2,h3,h4⟩;refine go q ⟨0,0,0⟩ st h.root ?_ h2 (by rw[h3];rfl) (by rw[h4];rfl);have e:(j4 t).getD 0 B9=T.start:=by rw[u9,a1T ht];rfl
 grind
theorem b4Y{α:Type}(c:Nat):∀l:List α,(l.map fun _=>c).sum=l.length*c
 | []=>by simp
 |a::l=>by
  have:=b4Y c l
  grind
def a8g(t:j9)(l:List Nat)(s:By):Nat:=(l.length+1)*((s.length+1)*(j4 t).length)
theorem PW.box{E:Option Plc}(h:PW t l s K O E):K.length≤a8g t l s:=by
 have h2:(List.range (l.length+1)).length=l.length+1:=List.length_range;have:=a7p K ((List.range (l.length+1)).flatMap fun c=>(List.range (s.length+1)).flatMap fun b=>(List.range (j4 t).length).map fun x=>Plc.mk c b x) h.nd fun p hp=>by obtain⟨g1,g2,g3,_⟩:=h.reach p hp;exact a2V.2 ⟨p.c,a1v.2 i9,a2V.2 ⟨p.b,a1v.2 i9,E9.2 ⟨p.s,a1v.2 g1,rfl⟩⟩⟩
 refine S7 this ?_;unfold a8g;simp only[List.length_flatMap,I8,List.length_range,b4Y];exact m0 _
end
abbrev PcQ(p:Plc):PV:=.agg [IN p.c,IN p.b,IN p.s]
theorem c5Y(a b:Plc):a0w (PcQ a) (PcQ b)=some (decide (a=b)):=by cases a;cases b;simp[a0w,U8,a0N,Bool.and_comm,Bool.and_assoc]
theorem b6D(s:Plc):∀(L:List Plc) (i:Nat),W9 (PcQ s) (L.map PcQ) i=some ((L.idxOf? s).map (· +i))
 | [],i=>rfl
 |a::L,i=>by
  simp only[a0s,W9];rw[c5Y,b6D s L (i+1)];by_cases h:a=s
  . subst h;simp[List.idxOf?,List.findIdx?_cons]
  . have h':¬s=a:=fun e=>h e.symm;simp[h',List.idxOf?,List.findIdx?_cons,h];cases List.findIdx? (fun x=>x==s) L<;>simp;omega
@[simp] theorem d0H(m l n:Nat)(L:List Plc):W9 (.agg [.int .i64 m,.int .i64 l,.int .i64 n]) (L.map PcQ) 0=some (L.idxOf? ⟨m,l,n⟩):=by have:=b6D ⟨m,l,n⟩ L 0;simpa using this
structure LW1 where
 (K O:List Plc)
 (R:List PV)
 (ver:Nat)
 (r2 r3 r4 r5 r6:Row)
 (w6 w7 w8 w9 w10 w11 w12 w13 w14 w15 w16:PV)
structure LW2 where
 (j:Nat)
 (K O:List Plc)
 (R:List PV)
 (ver:Nat)
 (r3 r4 r5 r6:Row)
 (w7 w8 w14 w15 w16:PV)
theorem b7K(t:j9)(ht:s5 t)(l:List Nat)(hl:l.length≤300000000)(s:By)(hs:s.length≤4000000000):∃r,(∃c:Bool,r=B c∧(c=true↔M7 t l s))∧F0 55 [0] [AGR t,CL l,St s] r:=by
 have hsl:=a1g ht;have hs1:=a1X ht;refine a2x mixed (X:=X55) c55 7 (by simp[X55]) (by kernel_rfl) fun Q hR hN=>?_;have hlg:(gL (E0 t) t).length=(j4 t).length:=by simp[gL]
 have hla:(O4 t).length=(j4 t).length:=by simp[O4]
 simp[X55];refine E3 (fun(y:LW1) vs h=>PW t l s y.K y.O none∧
  vs=[AGR t,CL l,St s,B false,.mapv 0 1,.own 1 1 (y.O.length+y.R.length) 3 0 y.O.length,y.w6,y.w7,y.w8,y.w9,y.w10,y.w11,y.w12,y.w13,y.w14,y.w15,y.w16]∧
  h=[(1,.mp false (y.K.map PcQ) (y.K.map fun _=>B true)),(1,.arr 3 y.ver false (y.O.map PcQ++y.R)),y.r2,y.r3,y.r4,y.r5,y.r6]) (fun y=>2*(a8g t l s-y.K.length)+y.O.length)
  ⟨[⟨0,0,0⟩],[⟨0,0,0⟩],[],0,dd,dd,dd,dd,dd,.uu,.uu,.uu,.uu,.uu,.uu,.uu,.uu,.uu,.uu,.uu⟩ ⟨PW.start ht,rfl,rfl⟩ ?_
 rintro⟨K,O,R,ver,r2,r3,r4,r5,r6,w6,w7,w8,w9,w10,w11,w12,w13,w14,w15,w16⟩ vs h ⟨hI,rfl,rfl⟩ Q2 hK2 hX2 hR2;dsimp only at hI hK2;rcases List.eq_nil_or_concat O with rfl|⟨O,p,rfl⟩
 . simp;refine hX2 _ _ _ ?_;simp;refine hR _ _ _ ⟨false,rfl,⟨fun h=>(by cases h),fun h=>absurd h (hI.none ht)⟩⟩ ?_;simp[X55]
 . rw[List.concat_eq_append]at hI hK2⊢;obtain⟨hI,hpK,hpR,hpl⟩:=hI.pop;obtain⟨p1,p2,p3,_⟩:=id hpR;have hw1:IntKind.i64.wrap (O.length:Int)=(O.length:Int):=O5;obtain⟨E,hE⟩:∃E,E=List.map PcQ O++PcQ p::R:=⟨_,rfl⟩
   have hEl:E.length=O.length+1+R.length:=(by rw[hE];simp;omega);obtain⟨hEi,hg⟩:∃h:O.length<E.length,E[O.length]=PcQ p:=B4.1 (by rw[hE];simp);have e1:List.map PcQ (O++[p])++R=E:=(by rw[hE];simp);have hle:O.length≤O.length+1+R.length:=i9;have hle2:O.length<O.length+1+R.length:=i9;rw[e1];have hlt:((O.length:Int)<(O.length:Int)+1)=True:=eq_true i9;have hlt2:((O.length:Int)≤(O.length:Int)+1)=True:=eq_true i9;have hsl2:p.s<(O4 t).length:=i9;have hsl3:p.s<(gL (E0 t) t).length:=i9;obtain⟨ac,hac⟩:=p8 ((O4 t)[p.s]);have hacB:ac=B6 t ((j4 t).getD p.s B9):=by rw[hac];simp only[O4,a1e];rw[u9,l9 p1];rfl
   obtain⟨A,hA⟩:=p8 (E8 t p.s);have hxA:(gL (E0 t) t)[p.s]=A:=(by rw[hA];unfold E8;rw[u9,l9 hsl3];rfl);have hAl:A.length≤64:=hA▸a5n ht p.s;by_cases hF:a9K t l s p
   . have hL:=hpR.lng hF;obtain⟨f1,f2,f3⟩:=hF;rw[←hacB]at f3;simp[hw1,hlt,hlt2,hg,hEl,hle,hle2,f1,f2,hsl2,←hac,f3];refine hR2 _ _ ?_;refine hR _ _ _ ⟨true,rfl,⟨fun _=>hL,fun _=>rfl⟩⟩ ?_;simp[X55]
   . have hcs:((p.c=l.length)=False∧True∧True)∨((p.c=l.length)=True∧(p.b=s.length)=False∧True)∨((p.c=l.length)=True∧(p.b=s.length)=True∧ac=false):=by
      by_cases h1:p.c=l.length
      . by_cases h2:p.b=s.length
        . cases h3:ac with
          |true=>exact absurd ⟨h1,h2,by rw[←hacB];exact h3⟩ hF
          |false=>exact .inr (.inr ⟨eq_true h1,eq_true h2,rfl⟩)
        . exact .inr (.inl ⟨eq_true h1,eq_false h2,trivial⟩)
      . exact .inl ⟨eq_false h1,trivial,trivial⟩
     rcases hcs with⟨g1,g2,g3⟩|⟨g1,g2,g3⟩|⟨g1,g2,g3⟩<;>simp[hw1,hlt,hlt2,hg,hEl,hle,hle2,g1,g2,hsl2,←hac,g3,hsl3,hxA]
     all_goals
      refine E3 (fun(y:LW2) vs h=>y.j≤A.length∧PW t l s y.K y.O (some p)∧y.O.length≤64*p.c+y.j∧p∈y.K∧(∀a∈A.take y.j,fits t l p.c a.1→pfx t s p.b a.1→nxP t p a∈y.K)∧2*(a8g t l s-y.K.length)+y.O.length≤2*(a8g t l s-K.length)+O.length∧
       vs=[AGR t,CL l,St s,B false,.mapv 0 1,.own 1 1 (y.O.length+y.R.length) 3 0 y.O.length,.ptr 2 (r2.1+1) 0,y.w7,y.w8,.bool true,.bool false,.slc (A.map (AG t)),IN A.length,IN y.j,y.w14,y.w15,y.w16]∧
       h=[(1,.mp false (y.K.map PcQ) (y.K.map fun _=>B true)),(1,.arr 3 y.ver false (y.O.map PcQ++y.R)),(r2.1+1,.var [IN p.c,IN p.b,IN p.s]),y.r3,y.r4,y.r5,y.r6]) (fun y=>A.length-y.j)
       ⟨0,K,O,PcQ p::R,ver,r3,r4,r5,r6,w7,w8,w14,w15,w16⟩ ⟨C9 _,hI,hpl,hpK,k7,m0 _,I3,by rw[hE]⟩ ?_
      rintro⟨j,K2,O2,R2,ver2,r3,r4,r5,r6,w7,w8,w14,w15,w16⟩ vs h ⟨a1,a2,a3,a4,a5,a6,rfl,rfl⟩ Q5 hK5 hX5 hR5;dsimp only at a1 a2 a3 a4 a5 a6 hK5;by_cases hj:j<A.length
      . have hwj:=wk1 j i9;obtain⟨a,ha⟩:=p8 (A[j]);have haA:a∈E8 t p.s:=(by rw[←hA,ha];exact B7 hj);obtain⟨o1,o2,o3,o4⟩:=a3m ht p1 haA;obtain⟨cl,hcl⟩:=p8 (s7 t a.1);have hcl2:(cls t a.1).length=cl:=hcl.symm;have hpl2:=b0C ht a.1;obtain⟨pl,hpl3⟩:=p8 ((prt t a.1).length);have hpl4:=hpl3.symm;rw[←hcl]at o3 o4;have hbg:=b7D (l.drop p.c) (cls t a.1) i9;obtain⟨fb,hfb0⟩:∃fb,fb=decide (cls t a.1<+:l.drop p.c):=⟨_,rfl⟩
        have hfb:fb=true↔fits t l p.c a.1:=(by rw[hfb0];exact decide_eq_true_iff);rw[←hfb0]at hbg;have hpx:=c0b (s.drop p.b) (prt t a.1);obtain⟨gb,hgb0⟩:=p8 ((prt t a.1).isPrefixOf (s.drop p.b));have hgb:gb=true↔pfx t s p.b a.1:=(by rw[hgb0];exact b4K);rw[←hgb0]at hpx;have htk:List.take (l.length-p.c) (List.drop p.c (l.map UN))=(l.drop p.c).map UN:=by rw[a1H,U4 (by rw[a2X,I8];exact m0 _)]
        rw[a1H]at htk;unfold CL at hbg;rw[a1H]at hbg;have hd:List.take (s.length-p.b) (List.drop p.b s)=s.drop p.b:=U4 k7;have skip:¬(fits t l p.c a.1∧pfx t s p.b a.1)→∀b∈A.take (j+1),fits t l p.c b.1→pfx t s p.b b.1→nxP t p b∈K2:=fun hn b hb h1 h2=>by
         rw[J2,l9 hj]at hb;rcases G7.1 hb with hb|hb
         . exact a5 b hb h1 h2
         . simp only[a5P,F7]at hb;rw[hb,←ha]at h1 h2;exact absurd ⟨h1,h2⟩ hn
        have next:∀K':List Plc,(∀x∈K2,x∈K')→nxP t p a∈K'→∀b∈A.take (j+1),fits t l p.c b.1→pfx t s p.b b.1→nxP t p b∈K':=fun K' hs hm b hb h1 h2=>by
         rw[J2,l9 hj]at hb;rcases G7.1 hb with hb|hb
         . exact hs _ (a5 b hb h1 h2)
         . simp only[a5P,F7]at hb;rw[hb,←ha];exact hm
        simp[hj,←ha,p2,htk];refine l7 hbg ?_;cases fb with
        |false=>
         have hf:¬fits t l p.c a.1:=fun h=>(by have:=hfb.2 h;cases this);simp[hwj];exact hK5 ⟨j+1,K2,O2,R2,ver2,_,r4,r5,r6,_,_,_,_,_⟩ _ _ m7 ⟨m7,a2,m7,a4,skip fun h=>hf h.1,a6,rfl,rfl⟩
        |true=>
         have hf:=hfb.1 rfl;simp[p3,hd];refine l7 hpx ?_;cases gb with
         |false=>
          have hg2:¬pfx t s p.b a.1:=fun h=>(by have:=hgb.2 h;cases this);simp[hwj];exact hK5 ⟨j+1,K2,O2,R2,ver2,_,r4,r5,r6,_,_,_,_,_⟩ _ _ m7 ⟨m7,a2,m7,a4,skip fun h=>hg2 h.2,a6,rfl,rfl⟩
         |true=>
          have hg2:=hgb.1 rfl;have hfl:=a4C hf;rw[←hcl]at hfl;have hgl:=(b9f hg2).2;obtain⟨c2,hc2⟩:=p8 (p.c+cl);obtain⟨b2,hb2⟩:=p8 (p.b+pl);have hcw:IntKind.i64.wrap ((p.c:Int)+(cl:Int))=(c2:Int):=(by rw[hc2];exact wrap_ok i9 i9);have hbw:IntKind.i64.wrap ((p.b:Int)+(pl:Int))=(b2:Int):=(by rw[hb2];exact wrap_ok i9 i9);have hnx:nxP t p a=⟨c2,b2,a.2⟩:=(by rw[hc2,hb2,hcl,hpl3];rfl);by_cases hn:nxP t p a∈K2
          . obtain⟨i,hi,hiL⟩:∃i,K2.idxOf? ⟨c2,b2,a.2⟩=some i∧i<K2.length:=by
             rw[hnx]at hn;cases hx:K2.idxOf? ⟨c2,b2,a.2⟩with
             |none=>exact absurd hn (a2j.1 hx)
             |some i=>exact⟨i,rfl,(List.idxOf?_eq_some_iff.1 hx).1⟩
            simp[hcl2,hpl4,hcw,hbw,hi,hiL,hwj];exact hK5 ⟨j+1,K2,O2,R2,ver2,_,_,r5,r6,_,_,_,_,_⟩ _ _ m7 ⟨m7,a2,m7,a4,next K2 (fun _ h=>h) hn,a6,rfl,rfl⟩
          . have hi:K2.idxOf? ⟨c2,b2,a.2⟩=none:=a2j.2 (by rw[←hnx];exact hn);obtain⟨K3,hK3⟩:=p8 (K2++[Plc.mk c2 b2 a.2]);have e1:List.map PcQ K2++[.agg [IN c2,IN b2,IN a.2]]=K3.map PcQ:=(by rw[hK3];simp);have e2:List.map (fun _=>PV.bool true) K2++[.bool true]=K3.map fun _=>B true:=(by rw[hK3];simp);obtain⟨O3,hO3⟩:=p8 (O2++[Plc.mk c2 b2 a.2]);have hO3l:O2.length+1=O3.length:=(by rw[hO3];simp);have e3:List.map PcQ O2++[.agg [IN c2,IN b2,IN a.2]]=O3.map PcQ:=(by rw[hO3];simp);have h24:(O2.length+1)*24≤140737488355328:=i9;have hI3:PW t l s K3 O3 (some p):=by
             rw[hK3,hO3,←hnx];exact a2.push ht a4 i9 haA hf hg2 hn
            have hb0:=hI3.box;have hK3l:K3.length=K2.length+1:=(by rw[hK3];simp);cases R2 with
            |nil=>
             simp[hcl2,hpl4,hcw,hbw,hi,hwj,e1,e2,e3,hO3l,show O3.length*24≤140737488355328 by omega];rw[←a0E (List.map PcQ O3)];exact hK5 ⟨j+1,K3,O3,[],ver2,_,_,_,r6,_,_,_,_,_⟩ _ _ m7 ⟨m7,hI3,m7,by simp[hK3,a4],next K3 (fun _ h=>by rw[hK3];exact a2D _ h) (by rw[hK3,hnx];simp),m7,rfl,rfl⟩
            |cons r R2=>
             have d1:List.drop (O2.length+1) (List.map PcQ O2++r::R2)=R2:=by rw[←a1U,List.drop_left' k7];rfl
             have e4:List.map PcQ O2++ .agg [IN c2,IN b2,IN a.2]::R2=O3.map PcQ++R2:=(by rw[hO3];simp);have d2:O2.length+(O2.length+(R2.length+1)-(O2.length+1)+1)=O3.length+R2.length:=i9;simp[hcl2,hpl4,hcw,hbw,hi,hwj,e1,e2,h24,d1,d2];rw[show O2.length+(R2.length+1)=O3.length+R2.length by omega,e4]
             try rw[hO3l]
             exact hK5 ⟨j+1,K3,O3,R2,ver2+1,_,_,_,r6,_,_,_,_,_⟩ _ _ m7 ⟨m7,hI3,m7,by simp[hK3,a4],next K3 (fun _ h=>by rw[hK3];exact a2D _ h) (by rw[hK3,hnx];simp),m7,rfl,rfl⟩
      . obtain rfl:j=A.length:=i9;rw[J7]at a5;simp;refine hX5 _ _ _ ?_;simp;refine hK2 ⟨K2,O2,R2,ver2,_,_,_,_,_,_,_,_,_,_,_,_,_,_,_,_⟩ _ _ (by dsimp only;simp;omega) ⟨a2.close hF (by rw[←hA];exact a5),rfl,rfl⟩
end Go.Proofs.YtbhfgadikmfjdaaGreat.T
