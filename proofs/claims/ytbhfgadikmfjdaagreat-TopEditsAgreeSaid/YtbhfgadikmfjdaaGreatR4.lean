/-
  The plain machine, that it is sound, and walks: part 4 (joined and shortened by a program of the prover's).
-/
import Derived.Test.YtbhfgadikmfjdaaGreatR3
import Derived.Test.YtbhfgadikmfjdaaGreatProg
import Derived.KernelRfl
set_option linter.unusedSimpArgs false
set_option linter.unusedVariables false
set_option linter.unusedSectionVars false
namespace Go.Proofs.YtbhfgadikmfjdaaGreat.T
open Go.Proofs.YtbhfgadikmfjdaaGreat.Am
set_option maxHeartbeats 16000000
structure b4s(t:j9)(p:List Nat):Prop where
 run:∃s,F6 t start p=some s∧C0 t s=true
 len:p.length≤5000
theorem a9i{t:j9}{n:Nat}{s:State}(h:(j4 t)[n]?=some s):(M8 t)[n]?=some true↔Live t s:=by
 classical
 simp only[M8,H6,h,a2o,s7,decide_eq_true_eq]
theorem c6k(t:j9):(M8 t).length=(j4 t).length:=by simp[M8]
open Classical in
noncomputable def a3o(t:j9)(s:State)(k:Nat):Bool:=match step t s k with
 |some nx=>decide (Live t nx)
 |none=>false
noncomputable def a0P(t:j9)(s:State)(k:Nat):List Nat:=(List.range k).filter (a3o t s)
theorem c1M(t:j9)(s:State)(k:Nat):a0P t s (k+1)=if a3o t s k then a0P t s k++[k]else a0P t s k:=by unfold a0P;rw[a2q,b1L,List.filter_cons,List.filter_nil];split<;>simp
theorem b6d(t:j9)(s:State)(k:Nat):(a0P t s k).length≤k:=by have:=List.length_filter_le (a3o t s) (List.range k);simpa[a0P]using this
theorem c1E(t:j9)(a:s8 t)(l:List Nat)(aY:l.length≤9223372036854775807)(aB:∀x∈l,x<256):
 ∃p b,(b=true→b4s t p)∧(b=false→p=[]∧¬Live t start)∧F0 14 [1,0] [TP t,CL l] (.tup [.uslc (p.map IN),B b]):=by
 suffices aC:∃r,(∃(p:List Nat) (b:Bool),(b=true→b4s t p)∧(b=false→p=[]∧¬Live t start)∧r=.tup [.uslc (p.map IN),B b])∧F0 14 [1,0] [TP t,CL l] r by obtain⟨r,⟨p,b,h1,aD,rfl⟩,ab⟩:=aC;exact⟨p,b,h1,aD,ab⟩
 refine a1C mixed (X:=X14) c14 20 (by simp[X14]) (by kernel_rfl) fun Q ac aZ=>?_;obtain⟨W,ad,aE⟩:=c1w t a;have hle:=a0G a;have a0:=a.l64;have a1:=a2j a;have J:=a2D a;have a6:=c6k t;have a7:=ad.wl;have h0:0<(M8 t).length:=i9;have ae:(M8 t)[0]=true↔Live t start:=by have:=a9i J;rw[m7 h0,s7]at this;exact this
 simp[X14];refine m6 (b3H t a) ?_;simp;refine m6 (c9H t a) ?_;simp;refine m6 aE ?_;simp[h0];cases hb:(M8 t)[0]
 . simp;refine ac _ _ _ ⟨[],false,l5,(fun _=>⟨rfl,fun h=>by rw[ae.2 h]at hb;cases hb⟩),rfl⟩ ?_;simp[X14]
 . have aF:=ae.1 hb;simp;refine m6 b3Q ?_;simp;refine I6 (fun(x:Nat×List Nat×State×Nat) vs h=>x.1≤10∧x.1≤l.length∧x.2.1.length=x.1∧F6 t start x.2.1=some x.2.2.1∧Live t x.2.2.1∧x.2.2.2≤4*x.1∧
    vs=[.uu,CL l,.ptr 15 1 0,.uu,.uu,.slc (E8 (j4 t)),.slc ((M8 t).map B),.slc (W.map I),.own 16 1 x.2.1.length 1 0 x.2.1.length,.ptr 17 1 0,IN x.2.2.2,IN x.1,.uu,.uu,.uu,.uu,.uu,.uu,.uu,.uu,.uu,.uu,.uu,.uu]∧
    h=[dd,dd,dd,dd,dd,dd,dd,dd,dd,dd,dd,dd,dd,dd,dd,(1,.var [IN t.modes,UN t.accept,.slc (t.rules.map RP)]),(1,.arr 1 0 false (x.2.1.map IN)),(1,.var [IN x.2.2.1.mode,IN x.2.2.1.last,UN x.2.2.1.need]),dd,dd]) (fun x=>10-x.1) (0,[],start,0) ?_ ?_
   . simp;exact⟨rfl,aF⟩
   . rintro⟨i,p,s,size⟩ vs h ⟨g1,g2,g3,g4,g5,g6,rfl,rfl⟩ Q' aG aH a8;dsimp only at g1 g2 g3 g4 g5 g6;have K:=b2g a (D4 J) g4;have af:=a2R a K;have D:∀ag ah ai aj ak al,Q' (.exit 0) [.uu,CL l,.ptr 15 1 0,.uu,.uu,.slc (E8 (j4 t)),.slc ((M8 t).map B),.slc (W.map I),.own 16 1 p.length 1 0 p.length,.ptr 17 1 0,IN size,IN i,ag,ah,.uu,.uu,.uu,.uu,.uu,ai,aj,.uu,ak,.uu]
      [dd,dd,dd,dd,dd,dd,dd,dd,dd,dd,dd,dd,dd,dd,dd,(1,.var [IN t.modes,UN t.accept,.slc (t.rules.map RP)]),(1,.arr 1 0 false (p.map IN)),(1,.var [IN s.mode,IN s.last,UN s.need]),al,dd]:=fun ag ah ai aj ak al=>by
      refine aH _ _ _ ?_;obtain⟨d,hd⟩:=ad.d;obtain⟨aI,m1,m2⟩:=a0U a K;have a9:=(hd aI ((a9i m2).2 g5)).1;simp;refine I6 (fun(x:List Nat×State) vs h=>F6 t start x.1=some x.2∧Live t x.2∧x.1.length+d (((j4 t).idxOf? x.2).getD 0)≤3083∧
       vs=[.uu,.uu,.ptr 15 1 0,.uu,.uu,.slc (E8 (j4 t)),.uu,.slc (W.map I),.own 16 1 x.1.length 1 0 x.1.length,.ptr 17 1 0,.uu,.uu,.uu,.uu,.uu,.uu,.uu,.uu,.uu,.uu,.uu,.uu,.uu,.uu]∧
       h=[dd,dd,dd,dd,dd,dd,dd,dd,dd,dd,dd,dd,dd,dd,dd,(1,.var [IN t.modes,UN t.accept,.slc (t.rules.map RP)]),(1,.arr 1 0 false (x.1.map IN)),(1,.var [IN x.2.mode,IN x.2.last,UN x.2.need]),dd,dd]) (fun x=>d (((j4 t).idxOf? x.2).getD 0)) (p,s) ?_ ?_
      . simp[m1];exact⟨g4,g5,i9⟩
      . rintro⟨E,s2⟩ vs h ⟨q,am,L,rfl,rfl⟩ Q2 u M aJ;dsimp only at q am L;have an:=b2g a (D4 J) q;have ao:=a2R a an;have F:=a9J t s2 a.ok ao.ok;obtain⟨n,N,G⟩:=a0U a an;have o:=a8a (j4 t) s2 i9;rw[N]at o L;simp only[a4F]at L;cases O:C0 t s2
        . rw[O]at F;obtain⟨_,aK⟩:=hd n ((a9i G).2 am);rcases aK with⟨aL,ab,ba⟩|⟨bb,⟨aL,k,ap,aq,a2,a3,a4,a5⟩,bc⟩
          . grind
          . rw[G]at aq;cases aq;obtain⟨aM,aN⟩:=b8V a4;have ar:=(a9i (m7 aM)).1 a5;rw[aN]at ar;have aO:n<W.length:=(B8.1 a2).1;have aP:W[n]=(k:Int):=(by grind);have c:=a5Z t s2 k a.ok ao.ok (by have:=a2s a3;omega);simp only[a1z,a3]at c;obtain⟨f,g⟩:=ex1 (E++[k]);have v:E.map IN++[IN k]=f.map IN:=(by rw[←g];simp);have w:E.length+1=f.length:=(by rw[←g];simp);have z:f.length*8≤140737488355328:=i9;have P:F6 t start f=some ap:=(by rw[←g,a5E,q];simp[F6,a3]);simp;refine m6 F ?_;simp;refine m6 o ?_;simp[aO,aP,v,w,z];refine m6 c ?_;simp;refine u (f,ap) _ _ (by grind) ?_;simp[a4];exact⟨P,ar,i9⟩
        . rw[O]at F;simp;refine m6 F ?_;simp;refine M _ _ _ ?_;simp;refine ac _ _ _ ⟨E,true,fun _=>⟨⟨s2,q,O⟩,i9⟩,l5,rfl⟩ ?_;simp[X14]
     by_cases hi:i<l.length
     . by_cases R:i<10
       . by_cases au:size≤10
         . have aQ:=wk1 i i9;simp[hi,R,au];refine I6 (fun(k:Nat) vs h=>k≤t.rules.length∧
            vs=[.uu,CL l,.ptr 15 1 0,.uu,.uu,.slc (E8 (j4 t)),.slc ((M8 t).map B),.slc (W.map I),.own 16 1 p.length 1 0 p.length,.ptr 17 1 0,IN size,IN i,.own 18 1 (a0P t s k).length 1 0 (a0P t s k).length,IN k,.uu,.uu,.uu,.uu,.uu,.uu,.uu,.uu,.uu,.uu]∧
            h=[dd,dd,dd,dd,dd,dd,dd,dd,dd,dd,dd,dd,dd,dd,dd,(1,.var [IN t.modes,UN t.accept,.slc (t.rules.map RP)]),(1,.arr 1 0 false (p.map IN)),(1,.var [IN s.mode,IN s.last,UN s.need]),(1,.arr 1 0 false ((a0P t s k).map IN)),dd]) (fun k=>t.rules.length-k) 0 ?_ ?_
           . simp[a0P]
           . rintro k vs h ⟨q,rfl,rfl⟩ Q2 u M aJ;by_cases S:k<t.rules.length
             . have T:=wk1 k i9;have c:=a5Z t s k a.ok af.ok i9;have j:=c1M t s k;have bd:=b6d t s k;cases hs:step t s k with
               |none=>
                have A:a3o t s k=false:=(by simp[a3o,hs]);rw[if_neg (by simp[A])]at j;simp only[a1z,hs]at c;simp[S];refine m6 c ?_;simp[T];refine u (k+1) _ _ i9 ?_;simp[j];omega
               |some nx=>
                obtain⟨n,N,G⟩:=a0U a (a0g a K hs);have o:=a8a (j4 t) nx i9;rw[N]at o;have U:n<(M8 t).length:=(by grind);have V:=a9i G;rw[m7 U,s7]at V;simp only[a1z,hs]at c;cases C:(M8 t)[n]
                . have A:a3o t s k=false:=by
                   simp only[a3o,hs,decide_eq_false_iff_not];intro h;rw[V.2 h]at C;cases C
                  rw[if_neg (by simp[A])]at j;simp[S];refine m6 c ?_;simp;refine m6 o ?_;simp[T,U,C];refine u (k+1) _ _ i9 ?_;simp[j];omega
                . have A:a3o t s k=true:=by
                   simp only[a3o,hs,decide_eq_true_eq];exact V.1 C
                  rw[if_pos A]at j;have v:(a0P t s k).map IN++[IN k]=(a0P t s (k+1)).map IN:=(by rw[j];simp);have w:(a0P t s k).length+1=(a0P t s (k+1)).length:=(by rw[j];simp);have z:(a0P t s (k+1)).length*8≤140737488355328:=i9;simp[S];refine m6 c ?_;simp;refine m6 o ?_;simp[T,U,C,v,w,z];refine u (k+1) _ _ i9 ?_;simp;omega
             . obtain rfl:k=t.rules.length:=i9;simp;refine M _ _ _ ?_;cases av:a0P t s t.rules.length with
               |nil=>
                simp;exact D _ _ _ _ _ _
               |cons f0 be=>
                rw[←av];have H:0<(a0P t s t.rules.length).length:=(by rw[av];simp);have bf:=aB _ (B7 hi);have aR:IntKind.i64.wrap (l[i]:Int)=(l[i]:Int):=I9;have Y:((l[i]:Int)).tmod ((a0P t s t.rules.length).length:Int)=((l[i]%(a0P t s t.rules.length).length:Nat):Int):=rfl;have Z:=a5c l[i] H;have aS:=b6d t s t.rules.length;obtain⟨fit,aw⟩:=ex1 (a0P t s t.rules.length);rw[aw]at H Y Z aS⊢;have aT:¬fit=[]:=fun e=>(by rw[e]at H;simp at H);have aU:¬fit.length=0:=i9;obtain⟨m,hm⟩:=ex1 (l[i]%fit.length);rw[hm]at Z Y;obtain⟨y,aV⟩:=ex1 (fit[m]);have ax:y∈fit:=(by grind);have ay:a3o t s y=true:=by rw[←aw]at ax;exact(a7M.1 ax).2
                obtain⟨s2,aa,aW⟩:∃s2,step t s y=some s2∧Live t s2:=by
                 cases az:step t s y with
                 |none=>simp[a3o,az]at ay
                 |some s2=>exact⟨s2,rfl,by simpa[a3o,az]using ay⟩
                obtain⟨aA,bg⟩:=b5F aa;have c:=a5Z t s y a.ok af.ok i9;simp only[a1z,aa]at c;have bh:=(a.snd (B7 aA)).p4;have aX:IntKind.i64.wrap ((size:Int)+(t.rules[y].print.length:Nat))=((size+t.rules[y].print.length:Nat):Int):=I9;obtain⟨f,g⟩:=ex1 (p++[y]);have v:p.map IN++[IN y]=f.map IN:=(by rw[←g];simp);have w:p.length+1=f.length:=(by rw[←g];simp);have z:f.length*8≤140737488355328:=i9;have P:F6 t start f=some s2:=(by rw[←g,a5E,g4];simp[F6,aa]);simp[aT,aU,hi,aR,Y,Z,aV,v,w,z,aA,aX];refine m6 c ?_;simp[aQ];refine aG (i+1,f,s2,size+t.rules[y].print.length) _ _ i9 ?_;simp;exact⟨i9,i9,i9,P,aW,i9⟩
         . simp[hi,R,au];exact D _ _ _ _ _ _
       . simp[hi,R];exact D _ _ _ _ _ _
     . simp[hi];exact D _ _ _ _ _ _
set_option maxHeartbeats 8000000
theorem c5d(t:j9)(a:s8 t)(p:List Nat)(s:State)(hp:p.length≤1000000)(hr:F6 t start p=some s):F0 34 [0,1,0,0,0,0,0] [TP t,.slc (p.map IN)] (TrP (J8 t p) (C8 t p) p.length s (C0 t s)):=by
 refine E4 c34 11 (by simp[X34]) fun Q o G=>?_;simp[X34];refine m6 b3Q ?_;simp;refine I6 (fun(x:Nat×State) vs h=>x.1≤p.length∧F6 t start (p.take x.1)=some x.2∧
  vs=[.uu,.slc (p.map IN),.ptr 5 1 0,.ptr 6 1 0,.ptr 7 1 0,IN x.1,.uu,.uu,.uu,.uu]∧
  h=[dd,dd,dd,dd,dd,(1,.var [IN t.modes,UN t.accept,.slc (t.rules.map RP)]),(1,.var [St [],.nils,I 0,I 0,I 0,U 0,B false]),(1,.var [St (J8 t (p.take x.1)),.own 8 1 (C8 t (p.take x.1)).length 1 0 (C8 t (p.take x.1)).length,IN x.1,IN x.2.mode,IN x.2.last,UN x.2.need,B false]),(1,.arr 1 0 false ((C8 t (p.take x.1)).map UN)),dd,dd])
  (fun x=>p.length-x.1) (0,start) ?_ ?_
 . simp[J8,C8,F6]
 . rintro⟨i,b⟩ vs h ⟨g1,g2,rfl,rfl⟩ Q' q r H;dsimp only at g1 g2;by_cases hi:i<p.length
   . have hw:=wk1 i i9;obtain⟨e,h1,J⟩:=c8X hr (i+1);have c:p.take (i+1)=p.take i++[p[i]]:=(by rw[L3,m7 hi];rfl);have f:step t b p[i]=some e:=by
      rw[c,a5E,g2]at h1;simp only[a5M,F6]at h1;obtain⟨s2,u,v⟩:=Y4.1 h1;cases v;exact u
     obtain⟨w,g⟩:=b5F f;have d:a2e b:=b3t a b3X g2;have j:=a5Z t b p[i] a.ok d.ok (by have:=a.l64;omega);simp only[a1z,f]at j;have k:J8 t (p.take (i+1))=J8 t (p.take i)++t.rules[p[i]].print:=(by rw[c,b9C];simp only[J8,a2Z,List.flatMap_nil,a1u,g]);have y:C8 t (p.take (i+1))=C8 t (p.take i)++t.rules[p[i]].cells:=(by rw[c,b1c];simp only[C8,a2Z,List.flatMap_nil,a1u,g]);have bt:=b2J a (p.take (i+1));have l:=b9i a (p.take (i+1));simp only[a1W]at bt l;obtain⟨T2,m⟩:=ex1 (J8 t (p.take (i+1)));obtain⟨C2,n⟩:=ex1 (C8 t (p.take (i+1)));rw[m]at k bt;rw[n]at y l;have z:(J8 t (p.take i)).length+t.rules[p[i]].print.length=T2.length:=(by grind);have A:(C8 t (p.take i)).map UN++t.rules[p[i]].cells.map UN=C2.map UN:=(by grind);have C:(C8 t (p.take i)).length+t.rules[p[i]].cells.length=C2.length:=(by grind);have D:¬9223372036854775807<T2.length:=i9;have E:C2.length≤140737488355328:=i9;simp[hi];refine m6 j ?_;simp[hi,hw,w,z,A,C,D,E,←k];refine q (i+1,e) _ _ i9 ?_;simp[m,n,h1];omega
   . obtain rfl:i=p.length:=i9;simp;refine r _ _ _ ?_;rw[M4]at g2;rw[hr]at g2;cases g2;have d:a2e s:=b3t a b3X hr;have F:=a9J t s a.ok d.ok;simp;refine m6 F ?_;simp;refine o _ _ ?_;simp[X34]
theorem c3W(t:j9)(c:s8 t)(l:List Nat)(e:l.length≤9223372036854775807)(f:∀x∈l,x<256):
 ∃p b,(b=true→b4s t p)∧(b=false→p=[]∧¬Live t start)∧F0 10 [0,0] [TP t,CL l] (.tup [St (J8 t p),B b]):=by
 obtain⟨p,b,h1,d,g⟩:=c1E t c l e f;refine⟨p,b,h1,d,?_⟩;have h:∃s,F6 t start p=some s∧p.length≤1000000:=by
  cases b
  . rw[(d rfl).1];exact⟨start,rfl,l5⟩
  . obtain⟨s,a,_⟩:=(h1 rfl).run;exact⟨s,a,by have:=(h1 rfl).len;omega⟩
 obtain⟨s,a,i⟩:=h;have j:=c5d t c p s i a;refine E4 c10 3 (by simp[X10]) fun Q k m=>?_;simp[X10];refine m6 g ?_;simp;refine m6 j ?_;simp;refine k _ _ ?_;simp[X10]
section
variable{t:j9}{s:State}{k:Nat}
def P4(t:j9)(s:State):Nat:=((j4 t).idxOf? s).getD 0
def a0z(t:j9)(s:State)(n:Nat):List (Nat×Nat):=(List.range n).filterMap fun k=>(step t s k).map fun s'=>(k,P4 t s')
def D8(t:j9):List (List (Nat×Nat)):=(j4 t).map fun s=>a0z t s t.rules.length
def V7(t:j9)(k j:Nat):List (List (Nat×Nat)):=(List.range (j4 t).length).map fun i=>if i<k then a0z t ((j4 t).getD i D7) t.rules.length else if i=k then a0z t ((j4 t).getD i D7) j else []
theorem b5r(t:j9)(s:State):a0z t s 0=[]:=rfl
theorem b4X(t:j9)(s:State)(n:Nat):a0z t s (n+1)=a0z t s n++((step t s n).map fun s'=>(n,P4 t s')).toList:=by unfold a0z;rw[a2q,b4P];cases h:step t s n<;>simp[h]
theorem b0I(t:j9)(s:State)(n:Nat):(a0z t s n).length≤n:=by have:=List.length_filterMap_le (fun k=>(step t s k).map fun s'=>(k,P4 t s')) (List.range n);simpa[a0z]using this
theorem b4g(t:j9)(k j:Nat):(V7 t k j).length=(j4 t).length:=by simp[V7]
theorem c5n(t:j9):V7 t 0 0=List.replicate (j4 t).length []:=by refine a7Q.2 ⟨b4g t 0 0,fun b hb=>?_⟩;obtain⟨i,_,rfl⟩:=E5.1 hb;simp[b5r]
theorem c8S(t:j9)(k:Nat):V7 t k t.rules.length=V7 t (k+1) 0:=by
 unfold V7;refine K3 fun i _=>?_;by_cases h1:i<k
 . simp[h1,show i<k+1 by omega]
 . by_cases a:i=k
   . subst a;simp
   . simp[h1,a,show¬i<k+1 by omega,b5r]
theorem c0j(t:j9):V7 t (j4 t).length 0=D8 t:=by
 apply W3 (by simp[V7,D8]);intro i h1 a;have b:i<(j4 t).length:=by simpa[D8]using a
 simp[V7,D8,b]
theorem b6C(a:k<(j4 t).length)(j:Nat):(V7 t k j)[k]'(by rw[b4g];exact a)=a0z t (j4 t)[k] j:=by simp[V7,a]
theorem b7B(b:k<(j4 t).length)(j:Nat):V7 t k (j+1)=(V7 t k j).set k (a0z t (j4 t)[k] (j+1)):=by
 apply W3 (by simp[V7]);intro i h1 c;have a:i<(j4 t).length:=by simpa[V7]using h1
 rw[a3w];by_cases h:i=k
 . subst h;simp[V7,a]
 . have h':¬k=i:=fun e=>h e.symm;simp[V7,h,h']
theorem c9M(a:k<(j4 t).length){j:Nat}(h:step t (j4 t)[k] j=none):V7 t k (j+1)=V7 t k j:=by rw[b7B a,b4X,h,←b6C a j];simp
theorem c5O{L:List State}(h:s∉L):L.idxOf? s=none:=a3a.2 h
theorem b1j{L:List State}(a:L.Nodup){i:Nat}(hi:i<L.length):(L.take i).idxOf? L[i]=none:=by
 refine c5O fun hm=>?_;obtain⟨j,hj,he⟩:=a1t hm;rw[List.getElem_take]at he;have b:j<i:=by simp at hj;omega
 exact a5Q.1 (a9F.1 a) j i i9 hi b he
theorem a6X(h:s∈j4 t):(j4 t).idxOf? s=some (P4 t s):=by
 unfold P4;cases a:(j4 t).idxOf? s with
 |none=>exact absurd h (a3a.1 a)
 |some n=>rfl
theorem a3e(h:s∈j4 t):P4 t s<(j4 t).length:=by have:=a6X h;obtain⟨h1,_⟩:=a1Y.1 this;exact h1
theorem b9j(h:s∈j4 t):(j4 t)[P4 t s]?=some s:=by have:=a6X h;obtain⟨h1,a,_⟩:=a1Y.1 this;rw[m7 h1];simpa using a
end
def X37:u7:=
 ⟨100,[0,1,2,4,5,6,7,8,9,10,11,12,13,33,34,35,36,56,57,58,59,65,66,67,76],15,[(3,none)],sq [.reg [F5 2 4 0,odl 3],.reg [⟨.load true 3 (.v 2),none,none,[5,6]⟩,obr 1 5 6,obw 3 2 6,⟨.call 71 [.l 2] [(5,3)] false,none,none,[6]⟩,J0 1 5,⟨.len true (.l 4),none,none,[5]⟩,⟨.bin .add false (.l 5) (oi 1),none,none,[5]⟩,⟨.makeSlice 6 2 48 (.agg [.nils,.nils]) (.l 6) (.l 6),none,none,[5]⟩,oq (.build [.int .i64 0,.int .u8 0,.nils,.str ⟨#[]⟩,.nils,.nils,.nils,.int .i64 0] [(0,3,.l 0),(3,1,.l 1),(4,1,.l 3),(6,1,.l 7)]),oq (.box 7 (.l 8)),oc 4 9],.reg [oa 4,D9 0,ou 4 1,ob 1 2,E0 3,oq (.makeMap 8 (some (.l 4))),oc 5 5],sq [.reg [oa 4,D9 0,ou 4 1,V8 13 1 2,L9 14 3,ox 15 0],.block 0 (.loop (sq [kh 16 15 14,B6 16 0,.block 1 (sq [kae 15 3 13 15 3 1 7 9 0 0 0 6 0 3 3 2,.reg [oa 5,oh 3 7,oa 6,ods 46 0 1 2]]),kd 15 1 15 0]))],.reg [oa 4,oa 4,D9 1,ou 4 2,ob 1 3,E0 4,oq (.makeSlice 10 1 24 .nils (.l 5) (.l 5)),D9 0,ou 5 7,ok 1 8 6],sq [.reg [oa 4,D9 0,ou 4 1,V8 17 1 2,L9 18 3,ox 19 0],.block 2 (.loop (sq [kh 20 19 18,B6 20 2,.block 3 (sq [kae 19 3 17 19 3 1 9 11 0 0 0 8 0 3 3 2,.reg [od 2 2,ob 1 0,L9 21 1,ox 22 0],.block 4 (.loop (sq [kh 23 22 21,B6 23 4,.block 5 (sq [kg 22 10 0,.reg [oh 3 2,oh 3 9,oa 10,odd 50 0 1 2 0 0 0 0 0 0 0 0,os 3,oy 4 0,oy 4 1,oak 11 12 0 0 0,ok 3 7 5,oc 12 6],.reg [ocf 24 12],.cond (.v 24) (.G5 8 none 30022 0 (.reg [obr 4 13 14,odv 0 13 14,oco 5 1 13 14,oeg 1 2 13 14,obr 8 13 14,J0 4 13,odo 5 13,ocv 5 6 13,P6 1 7 13,J0 8 13,obm 1 8 9 13,P6 1 10 13,oa 10,oa 5,oh 3 11,ofj 46 0 13 14,oft 0 0 0 1 12 1 1 15,oq (.mkarr 13 2 [.agg [.int .i64 0,.int .i64 0]] [(0,.l 16)]),J3 14 2 16 1 11 17,oj 1 3 4,ok 1 19 18])) kc]),kd 22 1 22 0]))]),kd 19 1 19 0]))],.G7 [(10,true),(5,true)] (kg 4 3 0),ko]⟩
def X72:u7:=
 ⟨37,[0,1,2,3,6,15],21,[],sq [.reg [oa 0,ofy 0 5,ofg 5 1 2 1,ob 1 2,oc 4 3],.reg [oa 4,oa 1,oj 1 0 1,ob 1 2,Z3 5 3],.cond (.v 5) (sq [.reg [oa 4,oa 1,oj 1 0 1,oeh 1 2],.G5 0 none 52014 0 (.reg [⟨.loadV false 1 (.v 3),none,none,[19,20]⟩,odv 0 19 20,oco 6 1 19 20,oeg 1 2 19 20,obr 0 19 20,oef 1 3 19,odo 5 19,ocv 6 6 19,P6 1 7 19,J0 0 19,obm 2 8 9 19,ocv 0 10 19,P6 1 11 19,oa 1,ocx 19 1 0 0 13,J3 20 1 8 1 12 14,oj 2 3 4,ou 0 16,ok 1 17 15])]) kc]⟩
def X38:u7:=
 ⟨131,[0,1,2,3,4,5,6,7,8,10,11,12,13,14,32,33,34,42,60,85,96,97,98,99,110],19,[],sq [.reg [F5 1 15 0],.reg [ow 2 (.allocA 16 [.slc [],.slc [],.slc [],.slc [],.slc []])],sq [kk 12 0,.block 0 (.loop (sq [.reg [ow 13 (.bin .lss false (.v 12) (oi 5))],B6 13 0,.block 1 (sq [kg 12 3 0,.reg [oa 3,E7 1 1,D9 1,ou 4 2,ob 1 3,E0 4,oq (.makeSlice 17 1 1 (.bool false) (.l 5) (.l 5)),ofg 5 1 2 0,ok 1 7 6]]),kd 12 1 12 0]))],kao 72 2 1 4 0,.reg [oa 4,oq (.cally (.l 0) [oi 0,oi 0])],.reg [E7 1 1,D9 0,ou 6 1,ob 1 2,L9 14 3,ox 15 0],.block 2 (.loop (sq [kh 16 15 14,B6 16 2,.block 3 (sq [kg 15 5 0,kk 6 0,sq [.reg [oa 5,E7 1 1,D9 1,ou 3 2,ob 1 3,Q8 4,oaz 17 0 5],.cond (.v 17) (.reg [E7 1 1,D9 0,ou 3 1,ob 1 2,oa 5,ofn 3 4,T9 73 5 0 0,oc 6 6]) kc],sq [kk 7 0,.block 4 (.loop (sq [sq [.reg [oa 7,E7 1 1,D9 1,ou 6 2,ob 1 3,oa 5,oj 2 4 5,ou 0 6,ob 1 7,E0 8,oaz 18 0 9],B6 18 4],.block 5 (sq [.reg [E7 1 1,D9 0,ou 6 1,ob 1 2,oa 5,oj 2 3 4,ou 0 5,ob 1 6,oa 7,oj 1 7 8,ob 1 9,oc 8 10],sq [.reg [E7 1 1,D9 0,ou 4 1,ob 1 2,oa 8,oj 3 3 4,ou 2 5,ob 1 6,oa 6,oq (.bin .shr false (.l 7) (.l 8)),ocm 9 1,oeu 19 10 1],.cond (.v 19) (.reg [E7 1 1,oa 5,D9 0,ou 7 2,ok 1 3 1]) kc],.reg [E7 1 1,D9 0,ou 5 1,ob 1 2,oa 8,oj 1 3 4,V8 20 1 5,L9 21 6,ox 22 0],.block 6 (.loop (sq [kh 23 22 21,B6 23 6,.block 7 (sq [.reg [U9 2 20 22,L6 2 0,ody 9 18 0 0,ok 2 2 1],.reg [E7 1 1,oa 5,od 0 9,ob 1 2,oq (.call 74 [.l 0,.l 1,.l 3] [(0,0),(0,0)] false),os 4,oy 5 0,oy 5 1,oc 10 6,oc 11 7],.reg [ocf 24 11],.cond (.v 24) (.reg [oa 4,oa 10,od 1 9,ob 1 2,oq (.cally (.l 0) [.l 1,.l 3])]) kc]),kd 22 1 22 0]))]),ki 7 0 1 7 1]))],.G5 5 none 52014 0 (.reg [E7 1 1,D9 0,ou 6 1,ob 1 2,oa 5,oj 2 3 4,ou 0 5,ob 1 6,oce 75 7]),.G5 5 none 52015 0 (.reg [oa 5,ofy 0 5,ofg 5 1 2 1,ob 1 2,oq (.clearS (.bool false) (.l 3))])]),kd 15 1 15 0]))]⟩
theorem c37:O1 Tryz.prog 37 4=some {X37 with body:=strip X37.body}:=by kernel_rfl
theorem c72:O1 Tryz.prog 72 19=some {X72 with body:=strip X72.body}:=by kernel_rfl
theorem c38:O1 Tryz.prog 38 15=some {X38 with body:=strip X38.body}:=by kernel_rfl
abbrev ARw(a:Nat×Nat):PV:=.agg [IN a.1,IN a.2]
abbrev FA(l:List (Nat×Nat)):PV:=if l=[]then .nils else .uslc (l.map ARw)
@[simp] theorem d0z:FA []=.nils:=rfl
@[simp] theorem d2x(a:Nat×Nat)(l:List (Nat×Nat)):FA (a::l)=.uslc (ARw a::l.map ARw):=rfl
@[simp] theorem d3j(l:List (Nat×Nat)):List.map (B4∘ARw) l=l.map ARw:=K3 fun _ _=>rfl
abbrev SA(l:List (Nat×Nat)):PV:=.slc (l.map ARw)
def O5(t:j9)(i:Nat):List State:=(j4 t).take i
abbrev TC(t:j9):List PV:=[IN t.modes,UN t.accept,.slc (t.rules.map RP)]
theorem a4x{P:Program}{φ:PV→List (Nat×Row)→Prop}(hm:P.follows .mixedOrders=true){f:FuncId}{off s0:Nat}{X:u7}(hc:O1 P f off=some {X with sites:=s0,body:=strip X.body})(hns:a2g X.body=true){first args cap:List PV}{h0:l7}(hlen:(first++args++cap).length≤X.ntmps)(ho:(first.all one&&cap.all one)=true)
 (hnx:noX X.body=true) (h:∀Q:J1,(∀r ws vs h,φ r ws→M6 X.results r h0 ws vs h→Q .ret vs h)→(∀r ws vs h,φ r ws→M6 X.results r h0 ws vs h→Q .normal vs h)→Xw (fns P) X.body Q (X.vars.map fun s=>(first++args++cap).getD s .uu) h0):∃r ws,φ r ws∧FI P (.fn (.func f) first cap) args h0 r ws:=by
 have hh:=h (fun e vs h=>∃r ws,φ r ws∧b1e X.results r h0 ws e vs h) (fun r ws vs h h1 h2=>⟨r,ws,h1,trivial,h2⟩) (fun r ws vs h h1 h2=>⟨r,ws,h1,trivial,h2⟩);rw[a0E]at hh;obtain⟨e,vs',h',h1,r,ws,h2,h3⟩:=b2X hnx hh;exact⟨r,ws,h2,b5l hm hc hns hlen ho (a4Y (fun e v p hx=>by obtain⟨rfl,rfl,rfl⟩:=hx;exact h3) h1)⟩
theorem c5w(t:j9)(ht:s8 t)(s:By)(hs:s.length≤1100000000)(r0 r1 r2 r3:Row):
 ∃r ws,(∃va R8 R9 R11 R12 R13 R14 g15,r=.ptr 7 1 0∧ws=[(4,(1,.var (TC t))),(5,(1,.arr 3 1 true (E8 (j4 t)))),(6,(1,.arr 2 0 false (List.replicate (s.length+1) (.agg [.nils,.nils])))),
  (7,(1,.var (TC t++[St s,.own 5 1 (j4 t).length 3 0 (j4 t).length,.own 10 1 (j4 t).length 1 0 (j4 t).length,.own 6 1 (s.length+1) 2 0 (s.length+1),I 0]))),
  (8,R8),(9,R9),(10,(1,.arr 1 va true ((D8 t).map SA))),(11,R11),(12,R12),(13,R13),(14,R14),(15,(g15,.dead))])∧
 FI Tryz.prog (.fn (.func 37) [] []) [TP t,St s] [r0,r1,r2,r3,dd,dd,dd,dd,dd,dd,dd,dd,dd,dd,dd,dd,dd,dd,dd,dd,dd,dd,dd,dd,dd,dd,dd] r ws:=by
 have hN:=a0G ht;have hpos:=a2j ht;have b1:(j4 t).length≤140737488355328:=i9;have b2:(j4 t).length≤9223372036854775807:=i9;have q1:0≤(s.length:Int)+1:=i9;have q2:((s.length:Int)+1)*48≤140737488355328:=i9;have q3:(s.length:Int)+1≤9223372036854775807:=i9;have q4:((s.length:Int)+1).toNat=s.length+1:=i9;have hw0:IntKind.i64.wrap ((s.length:Int)+1)=(s.length:Int)+1:=I9;refine a4x mixed (X:=X37) c37 (by rfl) (by simp[X37]) l5 (by kernel_rfl) fun Q hR hN=>?_;simp[X37];refine m6 (b1a t ht) ?_;simp[b1,b2,hw0,q1,q2,q3,q4];refine E3 (fun(p:Nat×PV×PV×PV×Row) vs h=>p.1≤(j4 t).length∧
  vs=[TP t,St s,.ptr 4 1 0,.lit (.pointer none),.ptr 7 1 0,.mapv 8 1,p.2.1,p.2.2.1,.uu,.uu,.uu,.uu,.uu,.own 5 1 (j4 t).length 3 0 (j4 t).length,IN (j4 t).length,IN p.1,p.2.2.2.1,.uu,.uu,.uu,.uu,.uu,.uu,.uu,.uu]∧
  h=[r0,r1,r2,r3,(1,.var (TC t)),(1,.arr 3 0 false (E8 (j4 t))),(1,.arr 2 0 false (List.replicate (s.length+1) (.agg [.nils,.nils]))),(1,.var (TC t++[St s,.own 5 1 (j4 t).length 3 0 (j4 t).length,.nils,.own 6 1 (s.length+1) 2 0 (s.length+1),I 0])),
   (1,.mp false (E8 (O5 t p.1)) ((List.range p.1).map IN)),p.2.2.2.2,dd,dd,dd,dd,dd,dd,dd,dd,dd,dd,dd,dd,dd,dd,dd,dd,dd]) (fun p=>(j4 t).length-p.1) (0,.uu,.uu,.uu,dd) ?_ ?_
 . simp[O5]
 . rintro⟨i,v6,v7,v16,R9⟩ vs h ⟨g1,rfl,rfl⟩ Q' hK hX hR';dsimp only at g1;by_cases hi:i<(j4 t).length
   . have hw:=wk1 i i9;have hf:(O5 t i).idxOf? (j4 t)[i]=none:=b1j (a8J ht) hi;have e1:E8 (O5 t i)++[.agg [IN (j4 t)[i].mode,IN (j4 t)[i].last,UN (j4 t)[i].need]]=E8 (O5 t (i+1)):=(by rw[show O5 t (i+1)=O5 t i++[(j4 t)[i]]by unfold O5;rw[b4O]];simp);have e3:List.map IN (List.range i)++[IN i]=List.map IN (List.range (i+1)):=(by rw[a2q];simp);simp[hi,hw,hf,e1,e3];exact hK (i+1,_,_,_,_) _ _ i9 ⟨s5,rfl,rfl⟩
   . obtain rfl:i=(j4 t).length:=i9;have b3:((j4 t).length:Int)*24≤140737488355328:=i9;have hall:O5 t (j4 t).length=j4 t:=M4;simp;refine hX _ _ _ ?_;simp[b2,b3,hall];refine E3 (fun(p:Nat×PV×PV×PV×PV×PV×PV×PV×PV×PV×PV×Nat×Row×Row×Nat×Nat×Nat) vs h=>p.1≤(j4 t).length∧
      vs=[TP t,St s,.ptr 4 1 0,.lit (.pointer none),.ptr 7 1 0,.mapv 8 1,v6,v7,p.2.1,p.2.2.1,p.2.2.2.1,p.2.2.2.2.1,p.2.2.2.2.2.1,.own 5 1 (j4 t).length 3 0 (j4 t).length,IN (j4 t).length,IN (j4 t).length,.bool false,.own 5 1 (j4 t).length 3 0 (j4 t).length,IN (j4 t).length,IN p.1,p.2.2.2.2.2.2.1,p.2.2.2.2.2.2.2.1,p.2.2.2.2.2.2.2.2.1,p.2.2.2.2.2.2.2.2.2.1,p.2.2.2.2.2.2.2.2.2.2.1]∧
      h=[r0,r1,r2,r3,(1,.var (TC t)),(1,.arr 3 0 false (E8 (j4 t))),(1,.arr 2 0 false (List.replicate (s.length+1) (.agg [.nils,.nils]))),(1,.var (TC t++[St s,.own 5 1 (j4 t).length 3 0 (j4 t).length,.own 10 1 (j4 t).length 1 0 (j4 t).length,.own 6 1 (s.length+1) 2 0 (s.length+1),I 0])),
       (1,.mp false (E8 (j4 t)) ((List.range (j4 t).length).map IN)),R9,(1,.arr 1 p.2.2.2.2.2.2.2.2.2.2.2.1 false ((V7 t p.1 0).map FA)),p.2.2.2.2.2.2.2.2.2.2.2.2.1,p.2.2.2.2.2.2.2.2.2.2.2.2.2.1,(p.2.2.2.2.2.2.2.2.2.2.2.2.2.2.1,.dead),(p.2.2.2.2.2.2.2.2.2.2.2.2.2.2.2.1,.dead),(p.2.2.2.2.2.2.2.2.2.2.2.2.2.2.2.2,.dead),dd,dd,dd,dd,dd,dd,dd,dd,dd,dd,dd]) (fun p=>(j4 t).length-p.1) (0,.uu,.uu,.uu,.uu,.uu,.uu,.uu,.uu,.uu,.uu,0,dd,dd,0,0,0) ?_ ?_
     . simp[c5n]
     . rintro⟨k,v8,v9,v10,v11,v12,v20,v21,v22,v23,v24,ver,R11,R12,g13,g14,g15⟩ vs h ⟨g2,rfl,rfl⟩ Q2 hK2 hX2 hR2;dsimp only at g2;by_cases hk:k<(j4 t).length
       . have hwk:=wk1 k i9;simp[hk];refine E3 (fun(p:Nat×PV×PV×PV×PV×PV×Nat×Row×Nat×Nat×Nat) vs h=>p.1≤t.rules.length∧
          vs=[TP t,St s,.ptr 4 1 0,.lit (.pointer none),.ptr 7 1 0,.mapv 8 1,v6,v7,IN k,.ptr 11 (R11.1+1) 0,p.2.1,p.2.2.1,p.2.2.2.1,.own 5 1 (j4 t).length 3 0 (j4 t).length,IN (j4 t).length,IN (j4 t).length,.bool false,.own 5 1 (j4 t).length 3 0 (j4 t).length,IN (j4 t).length,IN k,.bool true,IN t.rules.length,IN p.1,p.2.2.2.2.1,p.2.2.2.2.2.1]∧
          h=[r0,r1,r2,r3,(1,.var (TC t)),(1,.arr 3 0 false (E8 (j4 t))),(1,.arr 2 0 false (List.replicate (s.length+1) (.agg [.nils,.nils]))),(1,.var (TC t++[St s,.own 5 1 (j4 t).length 3 0 (j4 t).length,.own 10 1 (j4 t).length 1 0 (j4 t).length,.own 6 1 (s.length+1) 2 0 (s.length+1),I 0])),
           (1,.mp false (E8 (j4 t)) ((List.range (j4 t).length).map IN)),R9,(1,.arr 1 p.2.2.2.2.2.2.1 false ((V7 t k p.1).map FA)),(R11.1+1,.var [IN (j4 t)[k].mode,IN (j4 t)[k].last,UN (j4 t)[k].need]),p.2.2.2.2.2.2.2.1,(p.2.2.2.2.2.2.2.2.1,.dead),(p.2.2.2.2.2.2.2.2.2.1,.dead),(p.2.2.2.2.2.2.2.2.2.2,.dead),dd,dd,dd,dd,dd,dd,dd,dd,dd,dd,dd]) (fun p=>t.rules.length-p.1) (0,v10,v11,v12,v23,v24,ver,R12,g13,g14,g15) ?_ ?_
         . simp
         . rintro⟨j,v10,v11,v12,v23,v24,ver,R12,g13,g14,g15⟩ vs h ⟨g3,rfl,rfl⟩ Q3 hK3 hX3 hR3;dsimp only at g3;by_cases hj:j<t.rules.length
           . have h64:=ht.l64;have hwj:=wk1 j i9;have hsv:=a2R ht (B7 hk);have hst:=a8H t (j4 t)[k] j ht.ok hsv.ok i9;have hUl:=b4g t k j;simp[hj];refine m6 hst ?_;cases hs:step t (j4 t)[k] j with
             |none=>
              have hU:=c9M hk hs;simp[hwj];exact hK3 (j+1,_,_,_,_,_,_,_,_,_,_) _ _ i9 ⟨s5,rfl,by rw[hU];rfl⟩
             |some nx=>
              have hnx:=a0g ht (B7 hk) hs;have hn:=a6X hnx;have hm:=a3e hnx;have hg:=b6C hk j;have hU:=b7B hk j;rw[b4X,hs]at hU;have hkU:k<(V7 t k j).length:=i9;by_cases hf:a0z t (j4 t)[k] j=[]
              . rw[hf]at hU hg;have hE:FA (V7 t k j)[k]=.nils:=(by rw[hg];rfl);have e6:(List.map FA (V7 t k j)).set k (.uslc [.agg [IN j,IN (P4 t nx)]])=List.map FA (V7 t k (j+1)):=(by rw[hU,H9];rfl);simp[hk,hUl,hwj,hn,hm,hkU,hE,e6,hg];exact hK3 (j+1,_,_,_,_,_,_,_,_,_,_) _ _ i9 ⟨s5,rfl,rfl⟩
              . obtain⟨a,l,hal⟩:=a7P hf;rw[hal]at hU hg;have hE:FA (V7 t k j)[k]=.uslc (ARw a::l.map ARw):=(by rw[hg];rfl);have e6:(List.map FA (V7 t k j)).set k (.uslc (ARw a::(l.map ARw++[.agg [IN j,IN (P4 t nx)]])))=List.map FA (V7 t k (j+1)):=(by rw[hU,H9];simp);have hle:=b0I t (j4 t)[k] j;rw[hal]at hle;have b4:(l.length+1+1)*16≤140737488355328:=(by grind);simp[hk,hUl,hwj,hn,hm,hkU,hE,e6,hg,b4];exact hK3 (j+1,_,_,_,_,_,_,_,_,_,_) _ _ i9 ⟨s5,rfl,rfl⟩
           . obtain rfl:j=t.rules.length:=i9;simp;refine hX3 _ _ _ ?_;simp[hwk];exact hK2 (k+1,_,_,_,_,_,_,_,_,_,_,_,_,_,_,_,_) _ _ i9 ⟨s5,rfl,by rw[←c8S];rfl⟩
       . obtain rfl:k=(j4 t).length:=i9;have hnr:(∀(x:List (Nat×Nat)),x∈D8 t→D5 (FA x)=true):=fun x _=>(by unfold FA;split<;>rfl);have hfz:List.map (B4∘FA) (D8 t)=(D8 t).map SA:=by
          refine K3 fun l _=>?_;cases l with
          |nil=>rfl
          |cons a l=>simp[B4,K8]
         simp[c0j];refine hX2 _ _ _ ?_;simp[c0j,hnr,hfz];refine hR (.ptr 7 1 0) [(4,(1,.var (TC t))),(5,(1,.arr 3 1 true (E8 (j4 t)))),(6,(1,.arr 2 0 false (List.replicate (s.length+1) (.agg [.nils,.nils])))),
          (7,(1,.var (TC t++[St s,.own 5 1 (j4 t).length 3 0 (j4 t).length,.own 10 1 (j4 t).length 1 0 (j4 t).length,.own 6 1 (s.length+1) 2 0 (s.length+1),I 0]))),
          (8,(1,.mp false (E8 (j4 t)) ((List.range (j4 t).length).map IN))),(9,R9),(10,(1,.arr 1 (ver+1) true ((D8 t).map SA))),(11,R11),(12,R12),(13,(g13,.dead)),(14,(g14,.dead)),(15,(g15,.dead))] _ _ ⟨ver+1,_,R9,R11,R12,_,_,g15,rfl,rfl⟩ ?_
         simp[M6,X37];exact hnr
def X11:u7:=
 ⟨50,[0,1,2,4,5,6,7,8,9,16,22,40],4,[(3,some (true,2)),(4,none),(5,none)],sq [.reg [F5 2 0 0,ocp 3 1,ox 4 0,ox 5 0],sq [.reg [oa 1,ocr 35 0 0 0 0 0,os 1,oy 2 0,oy 2 1,oc 6 3,oc 7 4],.reg [oa 7,odr 9 0 0],.cond (.v 9) (sq [.reg [ofv,oa 6,oa 7,M1 2 3 0,oc 4 1,oc 5 2],ko]) kc],sq [.reg [oh 3 2,T9 36 0 0 0,Z3 10 1],.cond (.v 10) (sq [.reg [ofv,M1 2 3 0,ox 4 0,ox 5 61],ko]) kc],.reg [oh 3 2,oa 1,obv 37 0 1,oc 8 2],.reg [oa 8,oce 38 0],.reg [oa 8,oce 39 0],sq [.reg [oa 8,D9 0,ou 6 1,ob 1 2,ock 2 3 0,ou 1 4,ob 1 5,ock 1 6 0,ob 1 7,ofh 11 8 0],.cond (.v 11) (sq [.reg [ofv,oa 8,D9 1,ou 7 2,ob 1 3,oq (.storeN 2 (.v 3) (.l 0) [3]),oc 4 4,ox 5 61],ko]) kc],.reg [oa 8,ocr 40 0 2 1 3 1,oa 1,Q8 2,M1 2 3 1,oc 4 3,ox 5 0],ko]⟩
def X13:u7:=
 ⟨20,[0,1,2,4,5,7,16],4,[(3,none)],sq [.reg [F5 2 0 0,ox 3 0],.reg [oh 3 2,oa 1,ofi 11 0 1 1 1 2 1 0 0 0 0,os 2,oy 3 0,oy 3 1,oy 3 2,ocp 4 3,ok 2 7 4,os 5,oc 5 6],sq [.reg [oa 5,odr 6 0 0],.cond (.v 6) (sq [.reg [odk 3],ko]) kc],.reg [od 0 4,ob 1 0,E0 1,oc 3 2],ko]⟩
def X40:u7:=
 ⟨93,[0,2,3,4,5,6,8,9,10,11,12,20,27,28,29,30,42,71],6,[(1,some (true,2))],sq [.reg [ocp 1 0],.reg [ocp 2 1],.G5 2 (some 0) 3 1 (.G5 2 (some 1) 5 1 (sq [.reg [ox 3 0,ox 4 0],kc,sq [.reg [oa 0,D9 0,ou 6 1,ob 1 2,ock 2 3 0,oq (.call 77 [.l 4,oi 0] [(0,0)] false),oc 5 5],.block 0 (.loopS [0,1,2,3,4,5] 6 (sq [sq [.reg [oa 5,odt 11 0 0],B6 11 0],.block 1 (sq [sq [.reg [oa 0,D9 0,ou 5 1,ob 1 2,oa 4,oj 1 3 4,V8 12 1 5,L9 13 6,ox 14 0],.block 2 (.loopS [0,1,2,3,5,12,13,14] 6 (sq [kh 15 14 13,B6 15 2,.block 3 (sq [.reg [U9 2 12 14,L6 2 0,ody 6 2 0 0,ok 2 2 1],.reg [oa 0,oa 3,od 0 6,ob 1 2,oq (.call 74 [.l 0,.l 1,.l 3] [(0,0),(0,0)] false),os 4,oy 5 0,oy 5 1,oc 7 6,oc 8 7],sq [kak 8 16 0,kav 16 3],.reg [oa 0,D9 0,ou 0 1,ou 2 2,ob 1 3,od 0 6,ob 1 5,oj 6 4 6,ou 1 7,ob 1 8,oc 9 9],sq [.reg [oa 0,D9 0,ou 6 1,ob 1 2,oa 7,oj 2 3 4,od 1 6,ob 1 6,U2 77 5 7 0 0,oc 10 8],.reg [oa 10,ocb 0 0,os 1,L4 10 2,L4 5 2,L4 9 2,obi 5 2,⟨.bin .sub false (.l 4) (.l 6),none,some (.l 2,false),[]⟩,⟨.bin .neq false (.l 3) (.l 7),none,some (.l 2,false),[]⟩,U0 17 2 8],kav 17 3],.reg [od 0 2,ob 1 0,oa 9,J3 3 1 1 0 1 2,od 0 2,ok 1 4 3],.reg [od 1 2,ob 1 0,od 0 6,ob 1 2,ocx 4 1 0 0 3,J3 5 1 8 1 1 4,od 1 2,ok 1 6 5],.reg [oa 7,od 1 6,ob 1 1,oa 5,oa 9,E0 4,ofz 3 5,oc 3 0,oc 4 2,oc 5 6],kl 1]),kd 14 1 14 0]))],kl 0])]))],kam 2 2 2 1 0,ko]))]⟩
def X74:u7:=
 ⟨30,[0,1,2,6,7,8],0,[(3,none),(4,none)],sq [.reg [ox 3 0,oo 4],.reg [oa 0,D9 0,ou 0 1,ou 2 2,ob 1 3,oa 2,oj 6 4 5,ou 0 6,ob 1 7,oc 5 8],.reg [oa 1,oa 5,Q8 1,X2 0 2,oa 0,D9 4,ou 3 5,ob 1 6,oa 1,oq (.slice true 0 (.l 7) (some (.l 8)) none none),oa 5,U2 95 9 10 0 0,oc 3 3,oc 4 11],ko]⟩
def X77:u7:=
 ⟨25,[0,1,4,5,6,17],0,[(2,none)],sq [kk 2 0,.reg [oa 0,D9 0,ou 0 1,ob 1 2,oa 1,oct 108 3 4 0 0 0 0,os 5,oy 6 0,oy 6 1,oc 3 7,oc 4 8],sq [kak 4 5 0,.cond (.v 5) (sq [.reg [odk 2],ko]) kc],.reg [oa 0,D9 0,ou 1 1,ob 1 2,oa 3,oj 1 3 4,ob 1 5,oc 2 6],ko]⟩
def a6j:u7:=
 ⟨54,[0,1,4,5,6,7,8,9,15,27],0,[(2,none),(3,none)],sq [.reg [ox 2 0,oo 3],.reg [oa 0,E0 0,oc 4 1],.reg [oa 4,ox 5 0,oc 6 0],.block 0 (.loopS [0,1,4,5,6] 0 (sq [sq [.reg [oa 5,oa 6,oaz 8 0 1],B6 8 0],.block 1 (sq [.reg [oa 5,oa 6,X2 0 1,oq (.conv .u64 (.l 2)),oq (.bin .shr false (.l 3) (.c (.int .u64 1))),oew 4,oc 7 5],.reg [oa 0,oa 7,oj 1 0 1,ob 1 2,oa 1,ow 9 (.call 130 [.l 3,.l 4] [(0,0)] false)],.cond (.v 9) (ki 7 0 1 5 1) (kg 7 6 0)])])),.reg [oa 5,oa 5,oa 4,obu 1 2,os 3,og 0 4,og 5 4,oas 1 5 6 4,oe 1 7 4,og 1 4,oat 8 9 4,ofu 10 4,L4 0 11,L4 5 11,oci 1 12 13 11,ot 1 14 11,ocz 135 15 0 0 11,ofo 16 11,og 1 17,oex 135 18 0 0 17,odn 17 19 11,odp 11 20 4,ol 4 21,oc 2 0,oc 3 22],ko]⟩
def X95:u7:=
 ⟨8,[0,1,4],0,[(2,none)],sq [kj 2,.reg [oa 0,oa 1,U2 118 0 1 0 0,oc 2 2],ko]⟩
def a6Z:u7:=
 ⟨18,[0,1,4],0,[(2,none)],sq [kj 2,.reg [oa 0,Q8 0,oa 1,Q8 2,oq (.bin .geq false (.l 1) (.l 3)),os 4,og 0 5,og 1 5,⟨.len true (.l 7),none,some (.l 5,true),[]⟩,⟨.slice true 0 (.l 6) none (some (.l 8)) none,none,some (.l 5,true),[]⟩,og 1 5,oat 9 10 5,ol 5 11,oc 2 12],ko]⟩
def b0f:u7:=
 ⟨17,[0,1,4],0,[(2,none)],sq [kj 2,.reg [oa 0,T9 142 0 0 0,os 1,og 1 2,oex 142 3 0 0 2,odg 4 2,ol 2 5,os 6,L4 0 7,L4 1 7,oda 8 9 7,P5 7 10,oc 2 11],ko]⟩
def b1n:u7:=
 ⟨6,[0,2],0,[(1,none)],sq [kj 1,.reg [oa 0,oa 0,odz 0 1,oc 1 2],ko]⟩
def b1m:u7:=
 ⟨6,[0,2],0,[(1,none)],sq [kj 1,.reg [oa 0,oa 0,odz 0 1,oc 1 2],ko]⟩
theorem K4:C4 11 X11:=C6
theorem K5:C4 13 X13:=C6
theorem c40:C4 40 X40:=C6
theorem c74:C4 74 X74:=C6
theorem c77:C4 77 X77:=C6
theorem c108:C4 108 a6j:=C6
theorem c95:C4 95 X95:=C6
theorem c118:C4 118 a6Z:=C6
theorem c130:C4 130 b0f:=C6
theorem c142:C4 142 b1n:=C6
theorem c135:C4 135 b1m:=C6
def a5m(kn:List (List Bool))(p s:Nat):List (List Bool):=kn.set (p%5) ((kn.getD (p%5) []).set s true)
def R1(l:List Nat):List Nat:=l.mergeSort fun x y=>decide (x≤y)
theorem b1b(l:List Nat):(R1 l).Perm l:=List.mergeSort_perm l _
theorem c7B{l:List Nat}{x:Nat}:x∈R1 l↔x∈l:=(b1b l).mem_iff
theorem a9O(l:List Nat):(R1 l).length=l.length:=(b1b l).length_eq
theorem c9w{l:List Nat}(h:l.Nodup):(R1 l).Pairwise (· < ·):=by have h1:(R1 l).Pairwise (fun a b=>(decide (a≤b))=true):=List.pairwise_mergeSort (fun a b c=>by simp;omega) (fun a b=>by simp;omega) l;have d:(R1 l).Nodup:=(b1b l).nodup_iff.2 h;have:=h1.and (a9F.1 d);exact this.imp fun h=>by have:=h.1;have:=h.2;simp at*;omega
def N8(t:j9)(s:By)(p k:Nat):Bool:=((t.rules.getD k default).print).isPrefixOf (s.drop p)
def C5(t:j9)(k:Nat):Nat:=(t.rules.getD k default).print.length
def Cl(t:j9)(s:By)(i x m:Nat)(a2T:List (List Nat)):Prop:=∀a∈((D8 t).getD x []).take m,N8 t s i a.1=true→a.2∈a2T.getD (i+C5 t a.1) []
structure RI(t:j9)(s:By)(p e:Nat)(a2T:List (List Nat))(kn:List (List Bool)):Prop where
 len:a2T.length=s.length+1
 kl:kn.length=5
 klen:∀q,q<5→(kn.getD q []).length=(j4 t).length
 lt:∀i x,x∈a2T.getD i []→x<(j4 t).length
 nodup:∀i,(a2T.getD i []).Nodup
 win:∀i,p≤i→i<p+5→i≤s.length→∀x,x<(j4 t).length→((kn.getD (i%5) [])[x]?=some true↔x∈a2T.getD i [])
 root:0∈a2T.getD 0 []
 sorted:∀i,i<p→(a2T.getD i []).Pairwise (· < ·)
 done:∀i,i<p→∀x∈a2T.getD i [],Cl t s i x ((D8 t).getD x []).length a2T
 far:∀i,p+4+e≤i→a2T.getD i []=[]
theorem V0{α:Type}(l:List α)(i j:Nat)(a d:α):(l.set i a).getD j d=if j=i∧i<l.length then a else l.getD j d:=by grind
theorem Cl.mono{t:j9}{s:By}{i x m:Nat}{c c':List (List Nat)}(h:∀j y,y∈c.getD j []→y∈c'.getD j [])(b:Cl t s i x m c):Cl t s i x m c':=fun a d e=>h _ _ (b a d e)
theorem b4i(c:List (List Nat))(i x:Nat):∀j y,y∈c.getD j []→y∈(c.set i (c.getD i []++[x])).getD j []:=by grind
theorem RI.add{t:j9}{s:By}{p i x:Nat}{c:List (List Nat)}{kn:List (List Bool)}(h:RI t s p 1 c kn)(h1:p≤i)(C:i≤p+4)(f:i≤s.length)(l:x<(j4 t).length)(g:(kn.getD (i%5) [])[x]?=some false):
 RI t s p 1 (c.set i (c.getD i []++[x])) (a5m kn i x):=by
 have m:i<c.length:=by have:=h.len;omega
 have n:x∉c.getD i []:=fun hm=>by have:=(h.win i h1 i9 f x l).2 hm;rw[this]at g;cases g
 have o:i%5<kn.length:=by grind
 refine⟨by simp[h.len],by simp[a5m,h.kl],fun q r=>?_,fun j y d=>?_,fun j=>?_,fun j u v w y d=>?_,b4i c i x 0 0 h.root,fun j hj=>?_,fun j hj y d=>?_,fun j hj=>?_⟩
 . unfold a5m;rw[V0];split
   . rename_i D;rw[a4D];exact h.klen _ i9
   . exact h.klen q r
 . rw[V0]at d;split at d
   . rcases I4.1 d with d|d
     . exact h.lt i y d
     . rw[H5]at d;omega
   . exact h.lt j y d
 . rw[V0];split
   . rw[a5R];refine⟨h.nodup i,l5,fun a z b hb=>?_⟩;rw[H5]at hb;intro e;subst e;subst hb;exact n z
   . exact h.nodup j
 . unfold a5m;rw[V0,V0];by_cases hj:j=i
   . subst hj;rw[if_pos ⟨rfl,o⟩,if_pos ⟨rfl,m⟩];have E:=h.klen (j%5) i9;rw[a7R];by_cases k:x=y
     . grind
     . have:=h.win j h1 i9 f y d;have A:¬y=x:=fun e=>k e.symm;rw[if_neg k];exact⟨fun e=>a4G _ (this.1 e),fun e=>this.2 ((I4.1 e).elim id fun e=>absurd (H5.1 e) A)⟩
   . have B:¬j%5=i%5:=i9;simp only[B,hj,false_and,if_false];exact h.win j u v w y d
 . rw[V0,if_neg i9];exact h.sorted j hj
 . rw[V0,if_neg i9]at d;exact(h.done j hj y d).mono (b4i c i x)
 . rw[V0,if_neg i9];exact h.far j hj
theorem RI.next{t:j9}{s:By}{p:Nat}{c:List (List Nat)}{kn:List (List Bool)}(h:RI t s p 1 c kn)(hp:p≤s.length)(i:∀x∈c.getD p [],Cl t s p x ((D8 t).getD x []).length c):
 RI t s (p+1) 0 (c.set p (R1 (c.getD p []))) (kn.set (p%5) (List.replicate (j4 t).length false)):=by
 have k:p<c.length:=by have:=h.len;omega
 have l:p%5<kn.length:=by have:=h.kl;omega
 have d:∀j y,y∈(c.set p (R1 (c.getD p []))).getD j []↔y∈c.getD j []:=fun j y=>by
  rw[V0];split
  . rename_i m;rw[m.1];exact c7B
  . exact Iff.rfl
 have f:∀j y,y∈c.getD j []→y∈(c.set p (R1 (c.getD p []))).getD j []:=fun j y=>(d j y).2;refine⟨by simp[h.len],by simp[h.kl],fun q n=>?_,fun j y a=>h.lt j y ((d j y).1 a),fun j=>?_,fun j r u o y a=>?_,f 0 0 h.root,fun j hj=>?_,fun j hj y a=>?_,fun j hj=>?_⟩
 . rw[V0];split
   . simp
   . exact h.klen q n
 . rw[V0];split
   . exact(b1b _).nodup_iff.2 (h.nodup p)
   . exact h.nodup j
 . rw[d,V0];by_cases hj:j%5=p%5
   . have:j=p+5:=i9;subst this;rw[if_pos ⟨hj,l⟩,h.far (p+5) i9];simp[a]
   . rw[if_neg (fun e=>hj e.1)];exact h.win j i9 i9 o y a
 . by_cases b:j=p
   . subst b;rw[V0,if_pos ⟨rfl,k⟩];exact c9w (h.nodup j)
   . rw[V0,if_neg (fun e=>b e.1)];exact h.sorted j i9
 . have g:=(d j y).1 a;by_cases b:j=p
   . subst b;exact(i y g).mono f
   . exact(h.done j i9 y g).mono f
 . have b:¬j=p:=i9;rw[V0,if_neg (fun e=>b e.1)];exact h.far j i9
theorem RI.enter{t:j9}{s:By}{p:Nat}{c:List (List Nat)}{kn:List (List Bool)}(h:RI t s p 0 c kn):RI t s p 1 c kn:=⟨h.len,h.kl,h.klen,h.lt,h.nodup,h.win,h.root,h.sorted,h.done,fun j hj=>h.far j i9⟩
theorem RI.start{t:j9}{s:By}(b:1≤(j4 t).length):RI t s 0 0 ((List.replicate (s.length+1) []).set 0 [0]) ((List.replicate 5 (List.replicate (j4 t).length false)).set 0 ((List.replicate (j4 t).length false).set 0 true)):=by
 refine⟨l5,l5,fun q c=>?_,fun j y a=>?_,fun j=>?_,fun j d e f y a=>?_,l5,fun j hj=>i9,fun j hj=>i9,fun j hj=>?_⟩
 . grind
 . grind
 . grind
 . grind
 . grind
theorem a5z{t:j9}{s:By}{p k:Nat}(h:N8 t s p k=true):C5 t k≤s.length-p:=by unfold N8 at h;have:=(List.isPrefixOf_iff_prefix.1 h).length_le;simpa[C5]using this
def a0o(L:List Nat)(C:List Int)(x:Nat):Int:=if x∈L then C.getD (L.idxOf x) (-1)else-1
def A7(t:j9)(k:Nat):Nat:=(t.rules.getD k default).cells.length
def K7(t:j9)(p:Nat)(L:List Nat)(c:Nat→List Nat)(C:Nat→List Int)(D:List Int)(a:Nat×Nat):Int:=
 if C5 t a.1=0 then a0o L D a.2 else a0o (c (p+C5 t a.1)) (C (p+C5 t a.1)) a.2
def T6(t:j9)(s:By)(p:Nat)(L:List Nat)(c:Nat→List Nat)(C:Nat→List Int)(i:Nat)(silent:Bool)(st:List Int×Bool)(a:Nat×Nat):List Int×Bool:=
 if N8 t s p a.1=true∧decide (C5 t a.1=0)=silent then
  (if 0≤K7 t p L c C st.1 a∧(st.1.getD i 0<0∨K7 t p L c C st.1 a+A7 t a.1<st.1.getD i 0)then(st.1.set i (K7 t p L c C st.1 a+A7 t a.1),true)else st)
 else st
def W7(t:j9)(s:By)(p:Nat)(L:List Nat)(c:Nat→List Nat)(C:Nat→List Int)(i:Nat)(silent:Bool)(D:List Int)(A:List (Nat×Nat)):List Int×Bool:=A.foldl (T6 t s p L c C i silent) (D,false)
theorem b3q{t:j9}{s:By}{p:Nat}{L:List Nat}{c:Nat→List Nat}{C:Nat→List Int}{i:Nat}{silent:Bool}(st:List Int×Bool)(a:Nat×Nat):(T6 t s p L c C i silent st a).1.length=st.1.length:=by
 unfold T6;split
 . split
   . simp
   . rfl
 . rfl
theorem b6B{t:j9}{s:By}{p:Nat}{L:List Nat}{c:Nat→List Nat}{C:Nat→List Int}{i:Nat}{silent:Bool}(A:List (Nat×Nat)):∀(D:List Int),(W7 t s p L c C i silent D A).1.length=D.length:=by
 have key:∀(A:List (Nat×Nat)) (st:List Int×Bool),(A.foldl (T6 t s p L c C i silent) st).1.length=st.1.length:=by
  intro A
  induction A with
  |nil=>intro st;rfl
  |cons a A b=>intro st;rw[a3s,b,b3q]
 intro D;exact key A (D,false)
theorem a9f{L:List Nat}{C:List Int}{M:Int}(h:∀x∈C,x≤M)(a: -1≤M)(x:Nat):a0o L C x≤M:=by
 unfold a0o;split
 . rw[u9];cases b:C[L.idxOf x]? with
   |none=>exact a
   |some y=>exact h y (D4 b)
 . exact a
theorem c6v(a b:By):F0 118 [0] [St a,St b] (B (decide (b.length≤a.length)&&decide (a.take b.length=b))):=by
 refine E4 c118 0 (by simp[a6Z]) fun Q c d=>?_;by_cases h:b.length≤a.length
 . simp[a6Z,h];refine c _ _ ?_;simp[a6Z,h];rw[Bool.eq_iff_iff];simp
 . simp[a6Z,h];refine c _ _ ?_;simp[a6Z,h]
theorem c2j(a b:By):(decide (b.length≤a.length)&&decide (a.take b.length=b))=b.isPrefixOf a:=by
 rw[Bool.eq_iff_iff];simp only[G4,decide_eq_true_eq,List.isPrefixOf_iff_prefix];constructor
 . grind
 . intro h;exact⟨h.length_le,(List.prefix_iff_eq_take.1 h).symm⟩
theorem b8A(a b:By):F0 95 [0] [St a,St b] (B (b.isPrefixOf a)):=by refine E4 c95 0 (by simp[X95]) fun Q c d=>?_;have h:=c6v a b;rw[c2j]at h;simp[X95];refine m6 h ?_;simp;refine c _ _ ?_;simp[X95]
theorem b2d(t:j9)(s:By)(b c d e:PV)(p k:Nat)(hp:p≤s.length)(hs:s.length≤1100000000)(f:OkT t)(a:k<t.rules.length):F0 74 [0,0] [.fptr [IN t.modes,UN t.accept,.slc (t.rules.map RP),St s,b,c,d,e],IN p,IN k] (.tup [IN (p+(t.rules[k]).print.length),B ((t.rules[k]).print.isPrefixOf (s.drop p))]):=by refine E4 c74 0 (by simp[X74]) fun Q g i=>?_;have h:=b8A (s.drop p) (t.rules[k]).print;have hr:=(f.a1p _ (B7 a)).print;have hw:IntKind.i64.wrap ((p:Int)+((t.rules[k]).print.length:Int))=((p+(t.rules[k]).print.length:Nat):Int):=I9;have hd:List.take (s.length-p) (List.drop p s)=s.drop p:=S7 l5;simp[X74,a,hw,hp,hd];refine m6 h ?_;simp;refine g _ _ ?_;simp[X74]
theorem c5s(n:Nat):F0 142 [0] [IN n] (B false):=by refine E4 c142 0 (by simp[b1n]) fun Q a b=>?_;simp[b1n];refine a _ _ ?_;simp[b1n]
theorem c3d(n:Nat):F0 135 [0] [IN n] (B false):=by refine E4 c135 0 (by simp[b1m]) fun Q a b=>?_;simp[b1m];refine a _ _ ?_;simp[b1m]
theorem c8B(a b:Nat):F0 130 [0] [IN a,IN b] (B (decide (a<b))):=by refine E4 c130 0 (by simp[b0f]) fun Q c d=>?_;simp[b0f];refine m6 (c5s a) ?_;simp;refine c _ _ ?_;simp[b0f]
theorem c8h(L:List Nat)(x:Nat)(q:L.Pairwise (· < ·))(H:L.length≤1100000000):∃r,(∃i,r=.tup [IN i,B (decide (x∈L))]∧(x∈L→L[i]?=some x))∧F0 108 [0,0] [.slc (L.map IN),IN x] r:=by
 refine a1C mixed (X:=a6j) c108 0 (by simp[a6j]) (by kernel_rfl) fun Q g I=>?_;simp[a6j];refine I6 (fun(p:Nat×Nat) vs h=>p.1≤p.2∧p.2≤L.length∧(∀k,(c:k<L.length)→k<p.1→L[k]<x)∧(∀k,(c:k<L.length)→p.2≤k→¬L[k]<x)∧
  vs=[.slc (L.map IN),IN x,.uu,.uu,IN L.length,IN p.1,IN p.2,.uu,.uu,.uu]∧h=[]) (fun p=>p.2-p.1) (0,L.length) ?_ ?_
 . simp;intro k c J;omega
 . rintro⟨i,j⟩ vs h ⟨g1,g2,g3,g4,rfl,rfl⟩ Q' s l K;dsimp only at g1 g2 g3 g4;by_cases t:i<j
   . obtain⟨m,hm⟩:=p7 ((i+j)/2);have hw:IntKind.i64.wrap ((i:Int)+(j:Int))=((i+j:Nat):Int):=I9;have C:IntKind.u64.wrap ((i:Int)+(j:Int))=((i+j:Nat):Int):=(by simp[IntKind.wrap,IntKind.signed,IntKind.bits];omega);have u:IntKind.i64.wrap ((IntKind.u64.wrap ((i:Int)+(j:Int))).fdiv (2^min 1 IntKind.u64.bits))=(m:Int):=by
      rw[C];have:(((i+j:Nat):Int)).fdiv (2^min 1 IntKind.u64.bits)=(m:Int):=by rw[Int.fdiv_eq_ediv_of_nonneg _ I7];rw[show((2:Int)^min 1 IntKind.u64.bits)=2 by decide];omega
      rw[this];exact wrap_ok i9 i9
     have v:m<L.length:=i9;have w:=c8B L[m] x;have D:=wk1 m i9;have M:∀a b,(y:a<L.length)→(hb:b<L.length)→a<b→L[a]<L[b]:=fun a b y hb E=>a5Q.1 q a b y hb E;by_cases n:L[m]<x
     . simp[t,hw,u,v];refine m6 w ?_;simp[n,D];refine s (m+1,j) _ _ i9 ?_;simp;refine⟨i9,i9,fun k c F=>?_,fun k c hj=>by have:=g4 k c hj;omega⟩;by_cases o:k=m
       . subst o;exact n
       . grind
     . simp[t,hw,u,v];refine m6 w ?_;simp[n];refine s (i,m) _ _ i9 ?_;simp;refine⟨i9,i9,g3,fun k c F=>?_⟩;by_cases o:k=m
       . subst o;omega
       . grind
   . obtain rfl:i=j:=i9;by_cases d:i<L.length
     . by_cases he:L[i]=x
       . have f:x∈L:=he▸B7 d;simp;refine l _ _ _ ?_;simp[d,he];refine g _ _ _ ⟨i,rfl,fun _=>by rw[m7 d,he]⟩ ?_;simp[a6j,f]
       . have f:x∉L:=fun hm=>by
          obtain⟨k,c,z⟩:=a1t hm;have A:=g3 k c;have N:=g4 k c;by_cases G:k<i
          . have:=A G;omega
          . have O:k≠i:=fun e=>(by subst e;exact he z);have:i<k:=i9;have:=a5Q.1 q i k d c this;have:=g4 i d (m9 _);omega
         simp;refine l _ _ _ ?_;simp[d,he];refine m6 (c3d L[i]) ?_;simp;refine g _ _ _ ⟨i,rfl,fun h=>absurd h f⟩ ?_;simp[a6j,f]
     . have f:x∉L:=fun hm=>by
        obtain⟨k,c,z⟩:=a1t hm;have A:=g3 k c i9;omega
       simp;refine l _ _ _ ?_;simp[d];refine g _ _ _ ⟨i,rfl,fun h=>absurd h f⟩ ?_;simp[a6j,f]
theorem b1T(L:List Nat)(C:List Int)(x:Nat)(b:L.Pairwise (· < ·))(g:L.length≤1100000000)(k:C.length=L.length):F0 77 [0] [.fptr [.slc (L.map IN),.slc (C.map I)],IN x] (I (a0o L C x)):=by
 refine E4 c77 0 (by simp[X77]) fun Q c l=>?_;obtain⟨r,⟨i,rfl,hi⟩,d⟩:=c8h L x b g;by_cases a:x∈L
 . have j:=hi a;obtain⟨e,m⟩:=B8.1 j;have hid:L.idxOf x=i:=by
    have h1:L.idxOf x<L.length:=List.idxOf_lt_length_of_mem a;have n:L[L.idxOf x]=x:=List.getElem_idxOf h1;rcases Nat.lt_trichotomy (L.idxOf x) i with h|h|h
    . have:=a5Q.1 b _ _ h1 e h;omega
    . exact h
    . have:=a5Q.1 b _ _ e h1 h;omega
   have f:i<C.length:=i9;simp[X77];refine m6 d ?_;simp[a,f];refine c _ _ ?_;simp[X77,a0o,a,hid,f]
 . simp[X77];refine m6 d ?_;simp[a];refine c _ _ ?_;simp[X77,a0o,a]
abbrev KR(l:List Bool):PV:=.uslc (l.map B)
theorem b6W(t:j9)(s:By)(S4 A5 L7:PV)(cs:List PV)(kn:List (List Bool))(p x:Nat)(l:List Nat)(r0 r1 r2 r3 r4 r5 w y r10 z A r13 C D E F G H I J:Row)(ver i d e g19 g20 c:Nat)
 (T:cs.length≤1100000001) (hp:p<cs.length) (U:cs[p]?=some (.agg [FW l,.nils])) (K:l.length≤1000000) (j:kn.length=5) (f:x<(kn.getD (p%5) []).length) (k:(kn.getD (p%5) [])[x]?=some false):
 ∃r ws,(∃L M g19 g20 c,r=.tup []∧ws=[(6,(1,.arr 2 L false (cs.set p (.agg [FW (l++[x]),.nils])))),(16,(d,.arr 1 M false ((a5m kn p x).map KR))),(19,(g19,.dead)),(20,(g20,.dead)),(26,(c,.dead))])∧
 FI Tryz.prog (.fn (.func 72) [] [.eptr 16 d 5 1 0 0,.ptr 15 i 0]) [IN p,IN x] [r0,r1,r2,r3,r4,r5,(1,.arr 2 ver false cs),(1,.var (TC t++[St s,S4,A5,.own 6 1 cs.length 2 0 cs.length,L7])),w,y,r10,z,A,r13,C,(i,.var [.ptr 7 1 0]),(d,.arr 1 e false (kn.map KR)),D,E,(g19,.dead),(g20,.dead),F,G,H,I,J,(c,.dead)] r ws:=by
 obtain⟨q,N⟩:=p7 (p%5);have hm:(p:Int).tmod 5=(q:Int):=by grind
 have m:q<5:=i9;have n:q<kn.length:=i9;have O:kn.getD q []=kn[q]:=by grind
 unfold a5m;rw[←N,O]at f k⊢;obtain⟨b,hb⟩:=p7 (kn[q]);rw[←hb]at f k⊢;have o:b[x]=false:=by grind
 have P:(b.map B).set x (.bool true)=(b.set x true).map B:=by rw[H9]
 have u:(kn.map KR).set q (.uslc ((b.map B).set x (.bool true)))=(kn.set q (b.set x true)).map KR:=by rw[H9,P]
 have v:cs[p]=.agg [FW l,.nils]:=by grind
 cases l with
 |nil=>
  have g:cs[p]=.agg [.nils,.nils]:=v;refine a4x mixed (X:=X72) c72 (by rfl) (by simp[X72]) l5 (by kernel_rfl) fun Q R h=>?_;simp[X72,hm,m,n,j,←hb,f,o,u,hp,g];refine h _ [(6,(1,.arr 2 (ver+1) false (cs.set p (.agg [.uslc [IN x],.nils])))),(16,(d,.arr 1 e false ((kn.set q (b.set x true)).map KR))),(19,(g19+1,.dead)),(20,(g20+1,.dead)),(26,(c,.dead))] _ _ ⟨ver+1,e,g19+1,g20+1,c,rfl,rfl⟩ ?_;simp[M6,X72]
 |cons a l=>
  have g:cs[p]=.agg [.uslc (IN a::l.map IN),.nils]:=v;have S:(l.length+1+1)*8≤140737488355328:=by simp at K;omega
  refine a4x mixed (X:=X72) c72 (by rfl) (by simp[X72]) l5 (by kernel_rfl) fun Q R h=>?_;simp[X72,hm,m,n,j,←hb,f,o,u,hp,g,S];refine h _ [(6,(1,.arr 2 (ver+2+1) false (cs.set p (.agg [.uslc (IN a::(l++[x]).map IN),.nils])))),(16,(d,.arr 1 e false ((kn.set q (b.set x true)).map KR))),(19,(g19+1,.dead)),(20,(g20,.dead)),(26,(c+1,.dead))] _ _ ⟨ver+2+1,e,g19+1,g20,c+1,rfl,rfl⟩ ?_;simp[M6,X72]
theorem c9Q(t:j9)(s:By)(S4 A5 L7:PV)(cs:List PV)(kn:List (List Bool))(p x:Nat)(r0 r1 r2 r3 r4 r5 d e r10 f g r13 h i j k l m n o r u v:Row)(ver a b w:Nat)
 (y:kn.length=5) (c:x<(kn.getD (p%5) []).length) (z:(kn.getD (p%5) [])[x]?=some true):
 FI Tryz.prog (.fn (.func 72) [] [.eptr 16 b 5 1 0 0,.ptr 15 a 0]) [IN p,IN x] [r0,r1,r2,r3,r4,r5,(1,.arr 2 ver false cs),(1,.var (TC t++[St s,S4,A5,.own 6 1 cs.length 2 0 cs.length,L7])),d,e,r10,f,g,r13,h,(a,.var [.ptr 7 1 0]),(b,.arr 1 w false (kn.map KR)),i,j,k,l,m,n,o,r,u,v] (.tup []) []:=by
 obtain⟨q,A⟩:=p7 (p%5);have hm:(p:Int).tmod 5=(q:Int):=by grind
 have B:q<5:=i9;have C:q<kn.length:=i9;have D:kn.getD q []=kn[q]:=by grind
 rw[←A,D]at c z;have E:kn[q][x]=true:=by grind
 refine a3n mixed (X:=X72) c72 (by rfl) (by simp[X72]) l5 fun Q G F=>?_;simp[X72,hm,B,C,y,c,E];refine F _ _ ?_;simp[M6,X72]
set_option maxHeartbeats 16000000
section
variable{c:List (List Nat)}{p i:Nat}{t:j9}
def b5W:Prop:=∀(k g ver:Nat) (l:List Nat) (h:l7),h[k]?=some (g,.arr 1 ver false (l.map IN))→0<l.length→l.length<1000000→FI Tryz.prog (.fn (.func 75) [] []) [.own k g l.length 1 0 l.length] h (.tup []) [(k,(g,.arr 1 (ver+1) false ((R1 l).map IN)))]
def b8q:Prop:=∀(h:l7),FI Tryz.prog (.fn (.func 75) [] []) [.nils] h (.tup []) []
abbrev DS(l:List Nat):PV:=if l=[]then .nils else .slc (l.map IN)
@[simp] theorem d0r:DS []=.nils:=rfl
@[simp] theorem d2b(a:Nat)(l:List Nat):DS (a::l)=.slc (IN a::l.map IN):=rfl
def CS(p:Nat)(c:List (List Nat)):List PV:=(List.range c.length).map fun i=>.agg [if i<p then DS (c.getD i [])else FW (c.getD i []),.nils]
theorem b0d(p:Nat)(c:List (List Nat)):(CS p c).length=c.length:=by simp[CS]
theorem b4a(hi:i<c.length):(CS p c)[i]?=some (.agg [if i<p then DS (c.getD i [])else FW (c.getD i []),.nils]):=by simp[CS,hi]
theorem d0q(p:Nat)(c:List (List Nat)):∀x,x∈CS p c→D5 x=true:=fun x a=>by
 obtain⟨i,_,rfl⟩:=E5.1 a;by_cases h:i<p
 . rw[if_pos h];unfold DS;split<;>rfl
 . rw[if_neg h];unfold FW;split<;>rfl
@[simp ↓] theorem d1D(p:Nat)(c:List (List Nat)):(∀x,x∈CS p c→D5 x=true)=True:=eq_true (d0q p c)
theorem c9f(n:Nat):CS 0 (List.replicate n [])=List.replicate n (.agg [.nils,.nils]):=by
 refine a7Q.2 ⟨by simp[CS],fun b hb=>?_⟩;obtain⟨i,hi,rfl⟩:=E5.1 hb
 grind
theorem c0X(l:List Nat)(hp:p≤i):(CS p c).set i (.agg [FW l,.nils])=CS p (c.set i l):=by
 apply W3 (by simp[CS]);intro j h1 a;have hj:j<c.length:=by simpa[CS]using h1
 have e:=V0 c i j l [];rw[a3w];simp only[CS,a0b,a3Y]
 grind
theorem b6T(l:List Nat):(CS p c).set p (.agg [DS l,.nils])=CS (p+1) (c.set p l):=by
 apply W3 (by simp[CS]);intro j h1 a;have hj:j<c.length:=by simpa[CS]using h1
 have e:=V0 c p j l [];rw[a3w];simp only[CS,a0b,a3Y]
 grind
def knI(N i:Nat):List PV:=(List.range 5).map fun j=>if j<i then KR (List.replicate N false)else .slc []
theorem c1I(N i:Nat):(knI N i).set i (KR (List.replicate N false))=knI N (i+1):=by
 apply W3 (by simp[knI]);intro j h1 a;rw[a3w];simp only[knI,a0b,a3Y]
 grind
theorem b8u(N i:Nat):(knI N i).length=5:=by simp[knI]
theorem d0c(N:Nat):knI N 5=(List.replicate 5 (List.replicate N false)).map KR:=by simp[knI,a2q]
theorem b1U(c:s8 t){st:State}(d:st∈j4 t){n:Nat}{a:Nat×Nat}(b:a∈a0z t st n)(g:n≤t.rules.length):a.1<t.rules.length∧a.2<(j4 t).length:=by unfold a0z at b;obtain⟨k,e,hs⟩:=a9D.1 b;obtain⟨s',f,rfl⟩:=D0.1 hs;exact⟨by have:=a1v.1 e;show k<_;omega,a3e (a0g c d f)⟩
theorem b1C{c':List (List Nat)}(h:∀j,∃l,c'.getD j []=c.getD j []++l):∀j y,y∈c.getD j []→y∈c'.getD j []:=fun j y a=>by obtain⟨l,b⟩:=h j;rw[b];exact a4G _ a
theorem Cl.succ{s:By}{x k:Nat}{A:List (Nat×Nat)}(d:(D8 t).getD x []=A)(e:k<A.length)(h:Cl t s i x k c)(g:N8 t s i A[k].1=true→A[k].2∈c.getD (i+C5 t A[k].1) []):Cl t s i x (k+1) c:=by
 subst d;intro a b f;rw[L3,m7 e]at b;rcases I4.1 b with b|b
 . exact h a b f
 . grind
theorem b2w(b:s8 t)(k:Nat)(a:k<t.rules.length):C5 t k≤4:=by unfold C5;rw[u9,m7 a];exact(a2w (b.sound _ (B7 a))).p4
theorem a4w{P:Program}{f:PV}{args vs:List PV}{h h0 h1:l7}{var:Option Nat}{xs:List l6}{l:List PV}{K:B5→Prop}{r:PV}{ws:List (Nat×Row)}(a:FI P f args h0 r ws)(hu:p8 h0 ws=h1)(he:h=h0)
 (b:Xr (fns P) xs ⟨l++[r],K0 vs var r,h1⟩ K):Xy (fns P) f args var xs ⟨l,vs,h⟩ K:=by
 subst he;subst hu;exact c1A a b
abbrev HPw(t:j9)(s:By)(a:Nat)(r0 r1 r2 r3 r4 b d e f r13 g R17:Row)(h p last ver i:Nat)(c:List (List Nat))(kn:List (List Bool))(R18:Row)(g19 g20 j:Nat):l7:=
 [r0,r1,r2,r3,r4,(1,.arr 3 1 true (E8 (j4 t))),(1,.arr 2 ver false (CS p c)),
  (1,.var (TC t++[St s,.own 5 1 (j4 t).length 3 0 (j4 t).length,.own 10 1 (j4 t).length 1 0 (j4 t).length,.own 6 1 (s.length+1) 2 0 (s.length+1),IN last])),
  b,d,(1,.arr 1 a true ((D8 t).map SA)),e,f,r13,g,(h,.var [.ptr 7 1 0]),(1,.arr 1 i false (kn.map KR)),R17,R18,(g19,.dead),(g20,.dead),dd,dd,dd,dd,dd,(j,.dead)]
theorem c7Q(t:j9)(s:By)(b:Nat)(r0 r1 r2 r3 r4 d e f g r13 k R17:Row)(a p last ver m:Nat)(c:List (List Nat))(kn:List (List Bool))(R18:Row)(g19 g20 n i x:Nat)
 (hs:s.length≤1100000000) (L:(j4 t).length≤3072) (h:RI t s p 1 c kn) (h1:p≤i) (E:i≤p+4) (z:i≤s.length) (A:x<(j4 t).length):
 ∃c' B ver' F u v w ws,RI t s p 1 c' B∧(∀j,∃l,c'.getD j []=c.getD j []++l)∧x∈c'.getD i []∧
  FI Tryz.prog (.fn (.func 72) [] [.eptr 16 1 5 1 0 0,.ptr 15 a 0]) [IN i,IN x] (HPw t s b r0 r1 r2 r3 r4 d e f g r13 k R17 a p last ver m c kn R18 g19 g20 n) (.tup []) ws∧
  p8 (HPw t s b r0 r1 r2 r3 r4 d e f g r13 k R17 a p last ver m c kn R18 g19 g20 n) ws=HPw t s b r0 r1 r2 r3 r4 d e f g r13 k R17 a p last ver' F c' B R18 u v w:=by
 have C:(CS p c).length=s.length+1:=by rw[b0d,h.len]
 have M:=h.klen (i%5) i9;have D:x<(kn.getD (i%5) []).length:=i9;have G:i<c.length:=by have:=h.len;omega
 have hlen:(c.getD i []).length≤(j4 t).length:=a3H _ _ (h.nodup i) fun y H=>h.lt i y H;cases hb:(kn.getD (i%5) [])[x]with
 |false=>
  have o:(kn.getD (i%5) [])[x]?=some false:=by grind
  obtain⟨r,ws,⟨I,J,u,v,w,rfl,rfl⟩,q⟩:=b6W t s (.own 5 1 (j4 t).length 3 0 (j4 t).length) (.own 10 1 (j4 t).length 1 0 (j4 t).length) (IN last) (CS p c) kn i x (c.getD i []) r0 r1 r2 r3 r4 (1,.arr 3 1 true (E8 (j4 t))) d e (1,.arr 1 b true ((D8 t).map SA)) f g r13 k R17 R18 dd dd dd dd dd ver a 1 m g19 g20 n
   i9 i9 (by rw[b4a G,if_neg i9]) i9 h.kl D o
  rw[C,c0X _ h1]at q;refine⟨c.set i (c.getD i []++[x]),a5m kn i x,I,J,u,v,w,_,h.add h1 E z A o,fun j=>?_,?_,q,?_⟩
  . rw[V0];split
    . rename_i K;exact⟨[x],by rw[K.1]⟩
    . exact⟨[],l5⟩
  . grind
  . simp[p8]
 |true=>
  have o:(kn.getD (i%5) [])[x]?=some true:=by grind
  have q:=c9Q t s (.own 5 1 (j4 t).length 3 0 (j4 t).length) (.own 10 1 (j4 t).length 1 0 (j4 t).length) (IN last) (CS p c) kn i x r0 r1 r2 r3 r4 (1,.arr 3 1 true (E8 (j4 t))) d e (1,.arr 1 b true ((D8 t).map SA)) f g r13 k R17 R18 (g19,.dead) (g20,.dead) dd dd dd dd dd (n,.dead) ver a 1 m h.kl D o;rw[C]at q;exact⟨c,kn,ver,m,g19,g20,n,[],h,fun j=>⟨[],l5⟩,(h.win i h1 i9 z x A).1 o,q,rfl⟩
theorem c8D(t:j9)(s:By)(b:Nat)(r0 r1 r2 r3 r4 d e f g r13 h R17:Row)(a i:Nat)(R18:Row)(g19 g20 j:Nat)
 (hs:s.length≤1100000000) (A:1≤(j4 t).length):
 ∃ver' u k l m ws,
  FI Tryz.prog (.fn (.func 72) [] [.eptr 16 1 5 1 0 0,.ptr 15 a 0]) [I 0,I 0] (HPw t s b r0 r1 r2 r3 r4 d e f g r13 h R17 a 0 0 0 i (List.replicate (s.length+1) []) (List.replicate 5 (List.replicate (j4 t).length false)) R18 g19 g20 j) (.tup []) ws∧
  p8 (HPw t s b r0 r1 r2 r3 r4 d e f g r13 h R17 a 0 0 0 i (List.replicate (s.length+1) []) (List.replicate 5 (List.replicate (j4 t).length false)) R18 g19 g20 j) ws=HPw t s b r0 r1 r2 r3 r4 d e f g r13 h R17 a 0 0 ver' u ((List.replicate (s.length+1) []).set 0 [0]) ((List.replicate 5 (List.replicate (j4 t).length false)).set 0 ((List.replicate (j4 t).length false).set 0 true)) R18 k l m:=by
 obtain⟨c,n⟩:∃c,c=List.replicate (s.length+1) ([]:List Nat):=⟨_,rfl⟩
 obtain⟨kn,o⟩:=p7 (List.replicate 5 (List.replicate (j4 t).length false));have v:c.getD 0 []=[]:=by grind
 have p:kn.getD 0 []=List.replicate (j4 t).length false:=by rw[o];rfl
 have w:(CS 0 c).length=s.length+1:=by rw[b0d,n];simp
 have x:0<c.length:=by rw[n];simp
 rw[←n,←o];obtain⟨r,ws,⟨y,z,k,l,m,rfl,rfl⟩,q⟩:=b6W t s (.own 5 1 (j4 t).length 3 0 (j4 t).length) (.own 10 1 (j4 t).length 1 0 (j4 t).length) (I 0) (CS 0 c) kn 0 0 [] r0 r1 r2 r3 r4 (1,.arr 3 1 true (E8 (j4 t))) d e (1,.arr 1 b true ((D8 t).map SA)) f g r13 h R17 R18 dd dd dd dd dd 0 a 1 i g19 g20 j
  i9 i9 (by rw[b4a x,if_neg i9,v]) l5 (by rw[o];simp) (by grind) (by rw[show 0%5=0 from rfl,p];rw[List.getElem?_replicate,if_pos i9])
 rw[w,c0X _ (m9 0)]at q;refine⟨y,z,k,l,m,_,q,?_⟩;simp[p8,a5m,p];rw[←p];simp
structure RV where
 (v5 v6 v7 v8 v9 v10 v11 v16 v17 v18 v19 v20 v21 v22 v23 v24:PV)
abbrev VS(a n:Nat)(v3:PV)(p:Nat)(x:RV):List PV:=[.ptr 7 1 0,.ptr 15 a 0,.eptr 16 1 5 1 0 0,v3,.fn (.func 72) [] [.eptr 16 1 5 1 0 0,.ptr 15 a 0],x.v5,x.v6,x.v7,x.v8,x.v9,x.v10,x.v11,IN 5,.bool false,IN (n+1),IN p,x.v16,x.v17,x.v18,x.v19,x.v20,x.v21,x.v22,x.v23,x.v24]
theorem c7q(hS:b5W)(aG:b8q)(t:j9)(D:s8 t)(s:By)(hs:s.length≤1100000000)(n:Nat)(r0 r1 r2 r3 r4 o u v w r13 z:Row)(g15:Nat):
 ∃r ws,(∃c kn last ver R15 R16 R17 R18 g19 g20 b,r=.tup []∧RI t s (s.length+1) 0 c kn∧ws=[(6,(1,.arr 2 ver false (CS (s.length+1) c))),
  (7,(1,.var (TC t++[St s,.own 5 1 (j4 t).length 3 0 (j4 t).length,.own 10 1 (j4 t).length 1 0 (j4 t).length,.own 6 1 (s.length+1) 2 0 (s.length+1),IN last]))),
  (15,R15),(16,R16),(17,R17),(18,R18),(19,(g19,.dead)),(20,(g20,.dead)),(26,(b,.dead))])∧
 FI Tryz.prog (.fn (.func 38) [] []) [.ptr 7 1 0] [r0,r1,r2,r3,r4,(1,.arr 3 1 true (E8 (j4 t))),(1,.arr 2 0 false (List.replicate (s.length+1) (.agg [.nils,.nils]))),
  (1,.var (TC t++[St s,.own 5 1 (j4 t).length 3 0 (j4 t).length,.own 10 1 (j4 t).length 1 0 (j4 t).length,.own 6 1 (s.length+1) 2 0 (s.length+1),I 0])),
  o,u,(1,.arr 1 n true ((D8 t).map SA)),v,w,r13,z,(g15,.dead),dd,dd,dd,dd,dd,dd,dd,dd,dd,dd,dd] r ws:=by
 have ah:=a0G D;have ai:=a2j D;have aH:(j4 t).length≤140737488355328:=i9;have aI:(j4 t).length≤9223372036854775807:=i9;rw[←c9f];refine a4x mixed (X:=X38) c38 (by rfl) (by simp[X38]) l5 (by kernel_rfl) fun Q bz ah=>?_;simp[X38];refine E3 (fun(p:Nat×PV×PV×Nat×Nat) vs h=>p.1≤5∧vs=[.ptr 7 1 0,.ptr 15 (g15+1) 0,.eptr 16 1 5 1 0 0,p.2.1,.uu,.uu,.uu,.uu,.uu,.uu,.uu,.uu,IN p.1,p.2.2.1,.uu,.uu,.uu,.uu,.uu,.uu,.uu,.uu,.uu,.uu,.uu]∧
  h=[r0,r1,r2,r3,r4,(1,.arr 3 1 true (E8 (j4 t))),(1,.arr 2 0 false (CS 0 (List.replicate (s.length+1) []))),
   (1,.var (TC t++[St s,.own 5 1 (j4 t).length 3 0 (j4 t).length,.own 10 1 (j4 t).length 1 0 (j4 t).length,.own 6 1 (s.length+1) 2 0 (s.length+1),I 0])),
   o,u,(1,.arr 1 n true ((D8 t).map SA)),v,w,r13,z,(g15+1,.var [.ptr 7 1 0]),(1,.arr 1 p.2.2.2.1 false (knI (j4 t).length p.1)),(p.2.2.2.2,.dead),dd,dd,dd,dd,dd,dd,dd,dd,dd]) (fun p=>5-p.1) (0,.uu,.uu,0,0) ?_ ?_
 . simp[knI,a2q]
 . rintro⟨i,v3,v13,d,g17⟩ vs h ⟨g1,rfl,rfl⟩ Q' aJ aK bA;dsimp only at g1;by_cases hi:i<5
   . have hw:=wk1 i i9;have N:(knI (j4 t).length i).set i (.uslc (List.replicate (j4 t).length (.bool false)))=knI (j4 t).length (i+1):=(by rw[←c1I];simp[KR]);have aL:(knI (j4 t).length i)[i]'(by rw[b8u];exact hi)=.slc []:=(by simp[knI]);simp[hi,hw,aH,aI,b8u,N,aL];exact aJ (i+1,_,_,_,_) _ _ i9 ⟨s5,rfl,rfl⟩
   . obtain rfl:i=5:=i9;rw[d0c];obtain⟨aM,aN⟩:∃kn,kn=List.replicate 5 (List.replicate (j4 t).length false):=⟨_,rfl⟩
     obtain⟨aO,aP,aQ,aR,aS,bB,aj,T⟩:=c8D t s n r0 r1 r2 r3 r4 o u v w r13 z (g17,.dead) (g15+1) d dd 0 0 0 hs ai;have ak:=RI.start (t:=t) (s:=s) ai;rw[←aN]at ak aj T⊢;obtain⟨c0,aT⟩:∃c,c=(List.replicate (s.length+1) ([]:List Nat)).set 0 [0]:=⟨_,rfl⟩
     obtain⟨aU,aV⟩:∃k,k=aM.set 0 ((List.replicate (j4 t).length false).set 0 true):=⟨_,rfl⟩
     rw[←aT,←aV]at ak T;simp;refine aK _ _ _ ?_;simp;refine a4w aj T rfl ?_;simp[HPw];have aW:∀(p k:Nat),(B:k<t.rules.length)→(t.rules[k]).print.isPrefixOf (s.drop p)=N8 t s p k:=fun p k B=>by unfold N8;rw[u9,m7 B];rfl
     refine E3 (fun(q:Nat×List (List Nat)×List (List Bool)×Nat×Nat×Nat×Row×Nat×Nat×Nat×RV) vs h=>q.1≤s.length+1∧RI t s q.1 0 q.2.1 q.2.2.1∧vs=VS (g15+1) s.length v3 q.1 q.2.2.2.2.2.2.2.2.2.2∧
      h=HPw t s n r0 r1 r2 r3 r4 o u v w r13 z (g17,.dead) (g15+1) q.1 q.2.2.2.1 q.2.2.2.2.1 q.2.2.2.2.2.1 q.2.1 q.2.2.1 q.2.2.2.2.2.2.1 q.2.2.2.2.2.2.2.1 q.2.2.2.2.2.2.2.2.1 q.2.2.2.2.2.2.2.2.2.1) (fun q=>s.length+1-q.1) (0,c0,aU,0,aO,aP,dd,aQ,aR,aS,⟨.uu,.uu,.uu,.uu,.uu,.uu,.uu,.uu,.uu,.uu,.uu,.uu,.uu,.uu,.uu,.uu⟩) ?_ ?_
     . grind
     . rintro⟨p,c,kn,last,ver,d,R18,g19,g20,b,⟨v5,v6,v7,v8,v9,v10,v11,v16,v17,v18,v19,v20,v21,v22,v23,v24⟩⟩ vs h ⟨aX,O,rfl,rfl⟩ Q2 al aY bC;dsimp only at aX O;by_cases hp:p<s.length+1
       . have am:=wk1 p i9;have C:(p:Int)<(s.length:Int)+1:=i9;have an:p<c.length:=(by have:=O.len;omega);have E:∀c',RI t s p 1 c' kn→True:=fun _ _=>trivial;obtain⟨w6,⟨cl,bD,ao⟩,aZ,a0⟩:∃w6:PV,(∃cl,cl≤5∧w6=IN cl)∧((h:p<s.length)→IN (a1r s[p])=w6)∧(¬p<s.length→I 0=w6):=by
          by_cases h:p<s.length
          . exact⟨IN (a1r s[p]),⟨_,b0Q _,rfl⟩,fun _=>rfl,fun h'=>absurd h h'⟩
          . grind
         by_cases P:p<s.length
         case' pos=>
          simp[HPw,VS,hp,C,P];refine m6 (a9X s[p]) ?_;simp;have ap:=aZ P
         case' neg=>
          simp[HPw,VS,hp,C,P];have ap:=a0 P
         all_goals
          refine E3 (fun(q:Nat×List (List Nat)×List (List Bool)×Nat×Nat×Nat×Row×Nat×Nat×Nat×RV) vs h=>q.1≤(q.2.1.getD p []).length∧RI t s p 1 q.2.1 q.2.2.1∧(∀j y,j<q.1→(q.2.1.getD p [])[j]?=some y→Cl t s p y ((D8 t).getD y []).length q.2.1)∧
           vs=VS (g15+1) s.length v3 p {q.2.2.2.2.2.2.2.2.2.2 with v5:=IN p,v6:=w6,v7:=IN q.1}∧
           h=HPw t s n r0 r1 r2 r3 r4 o u v w r13 z (g17,.dead) (g15+1) p q.2.2.2.1 q.2.2.2.2.1 q.2.2.2.2.2.1 q.2.1 q.2.2.1 q.2.2.2.2.2.2.1 q.2.2.2.2.2.2.2.1 q.2.2.2.2.2.2.2.2.1 q.2.2.2.2.2.2.2.2.2.1) (fun q=>(j4 t).length-q.1) (0,c,kn,last,ver,d,R18,g19,g20,b,⟨.uu,.uu,.uu,_,_,_,_,_,_,_,_,_,_,_,_,_⟩) ⟨D6 _,O.enter,fun j y hj=>absurd hj i9,by rw[←ap];rfl,rfl⟩ ?_
          rintro⟨i,c,kn,last,ver,d,R18,g19,g20,b,⟨v5,v6,v7,v8,v9,v10,v11,v16,v17,v18,v19,v20,v21,v22,v23,v24⟩⟩ vs h ⟨aq,f,R,rfl,rfl⟩ Q3 a1 ar bE;dsimp only at aq f R;have an:p<c.length:=(by have:=f.len;omega);have E:(CS p c).length=s.length+1:=(by rw[b0d,f.len]);have g:(CS p c)[p]?=some (.agg [FW (c.getD p []),.nils]):=by have:=b4a (p:=p) an;rw[if_neg i9]at this;exact this
          obtain⟨L,F⟩:=p7 (c.getD p []);rw[←F]at g aq R;have bF:L.length≤(j4 t).length:=F▸a3H _ _ (f.nodup p) fun y G=>f.lt p y G;by_cases hi:i<L.length
          . have H:FW L=.uslc (L.map IN):=if_neg (fun e=>by subst e;simp at hi);rw[H]at g;have m:L[i]<(j4 t).length:=f.lt p _ (F▸B7 hi);obtain⟨x,au⟩:=p7 (L[i]);rw[←au]at m;have a2:(D8 t)[x]?=some (a0z t (j4 t)[x] t.rules.length):=(by simp[D8,m]);obtain⟨A,U⟩:=p7 (a0z t (j4 t)[x] t.rules.length);rw[←U]at a2;have V:(D8 t).length=(j4 t).length:=(by simp[D8]);have a3:(D8 t)[x]'i9=A:=(by grind);have av:(D8 t).getD x []=A:=(by grind);have bG:A.length≤64:=(by have:=b0I t (j4 t)[x] t.rules.length;have:=D.l64;rw[U];omega);have a4:∀a∈A,a.1<t.rules.length∧a.2<(j4 t).length:=fun a W=>b1U D (B7 m) (U▸W) (m9 _);have a5:=wk1 i i9;simp[HPw,VS,E,C,g,hi,←au,m,ao];refine c6f rfl (fun a6=>?_) (fun a6=>?_)
            all_goals
             simp[a3,V,m];refine E3 (fun(q:Nat×List (List Nat)×List (List Bool)×Nat×Nat×Nat×Row×Nat×Nat×Nat×RV) vs h=>q.1≤A.length∧RI t s p 1 q.2.1 q.2.2.1∧(∀j,∃l,q.2.1.getD j []=c.getD j []++l)∧Cl t s p x q.1 q.2.1∧
              vs=VS (g15+1) s.length v3 p {q.2.2.2.2.2.2.2.2.2.2 with v5:=IN p,v6:=IN cl,v7:=IN i,v8:=IN x,v20:=SA A,v21:=IN A.length,v22:=IN q.1}∧
              h=HPw t s n r0 r1 r2 r3 r4 o u v w r13 z (g17,.dead) (g15+1) p q.2.2.2.1 q.2.2.2.2.1 q.2.2.2.2.2.1 q.2.1 q.2.2.1 q.2.2.2.2.2.2.1 q.2.2.2.2.2.2.2.1 q.2.2.2.2.2.2.2.2.1 q.2.2.2.2.2.2.2.2.2.1) (fun q=>A.length-q.1) (0,c,kn,_,ver,d,R18,g19,g20,b,⟨.uu,.uu,.uu,.uu,_,_,_,_,_,_,_,.uu,.uu,.uu,_,_⟩) ⟨D6 _,f,fun j=>⟨[],l5⟩,fun a W=>by simp at W,rfl,rfl⟩ ?_
             rintro⟨k,c',Y,last,ver,d,R18,g19,g20,b,⟨v5,v6,v7,v8,v9,v10,v11,v16,v17,v18,v19,v20,v21,v22,v23,v24⟩⟩ vs h ⟨a7,J,K,Z,rfl,rfl⟩ Q4 aw a8 bH;dsimp only at a7 J K Z;by_cases B:k<A.length
             . have ax:=wk1 k i9;obtain⟨S,a9⟩:=a4 _ (B7 B);have ay:(CS p c').length=s.length+1:=(by rw[b0d,J.len]);have aa:List.map (B4∘SA) (D8 t)=(D8 t).map SA:=K3 fun _ _=>rfl;have ba:List.take (j4 t).length (List.map SA (D8 t))=(D8 t).map SA:=S7 (by simp[V]);have bb:List.take (j4 t).length (List.map SP (j4 t))=(j4 t).map SP:=S7 l5;have bc:List.take (s.length+1) (List.map B4 (CS p c'))=(CS p c').map B4:=S7 (by simp[ay]);have az:=fun bd be bf bg=>b2d t s bd be bf bg p A[k].1 i9 hs D.ok S;have bI:=b2w D A[k].1 S;have bh:(t.rules[A[k].1]).print.length=C5 t A[k].1:=(by unfold C5;rw[u9,m7 S];rfl);rw[aW p _ S,bh]at az;simp[HPw,VS,B,V,ay,aa,ba,bb,bc];refine m6 (az _ _ _ _) ?_;cases aA:N8 t s p A[k].1 with
               |false=>
                simp[ax];exact aw (k+1,c',Y,last,ver,d,_,g19,g20,b,⟨.uu,.uu,.uu,.uu,_,_,_,_,_,_,_,.uu,.uu,.uu,_,_⟩) _ _ i9 ⟨s5,J,K,Z.succ av B (fun e=>by rw[aA]at e;cases e),rfl,rfl⟩
               |true=>
                have hle:=a5z aA;obtain⟨c2,bi,bj,bk,bl,bm,bn,ws,bo,aB,bp,bq,br⟩:=c7Q t s n r0 r1 r2 r3 r4 o u v w r13 z (g17,.dead) (g15+1) p last ver d c' Y (R18.1+1,.var [IN A[k].1,IN A[k].2]) g19 g20 b (p+C5 t A[k].1) A[k].2 hs i9 J i9 i9 i9 a9;simp;refine a4w bq br rfl ?_;simp[HPw,ax];exact aw (k+1,c2,bi,last,bj,bk,_,bl,bm,bn,⟨.uu,.uu,.uu,.uu,_,_,_,_,_,_,_,.uu,.uu,.uu,_,_⟩) _ _ i9 ⟨s5,bo,fun j=>by obtain⟨l1,h1⟩:=K j;obtain⟨bs,ab⟩:=aB j;exact⟨l1++bs,by rw[ab,h1,a3t]⟩,(Z.mono (b1C aB)).succ av B (fun _=>bp),rfl,rfl⟩
             . obtain rfl:k=A.length:=i9;simp[VS];refine a8 _ _ _ ?_;simp[a5];obtain⟨l1,h1⟩:=K p;rw[←F]at h1;refine a1 (i+1,c',Y,last,ver,d,_,g19,g20,b,⟨.uu,.uu,.uu,_,_,_,_,_,_,_,_,_,_,_,_,_⟩) _ _ i9 ⟨by dsimp only;rw[h1];simp;omega,J,fun j y hj G=>?_,by rw[ao];rfl,rfl⟩;dsimp only at hj G⊢;rw[h1,a1k i9]at G;by_cases bJ:j=i
               . grind
               . exact(R j y i9 G).mono (b1C K)
          . have bt:i=L.length:=i9;obtain⟨q,bu⟩:=p7 (p%5);have hm:(p:Int).tmod 5=(q:Int):=(by grind);have ac:q<5:=i9;have aC:=f.kl;have aD:q<kn.length:=i9;have bv:kn.getD q []=kn[q]:=(by grind);have ad:=f.klen q ac;rw[bv]at ad;have ae:=f.next i9 fun x m=>by
             rw[←F]at m;obtain⟨j,hj,rfl⟩:=a1t m;exact R j _ i9 (m7 hj)
            rw[←bu,←F]at ae;have N:(kn.map KR).set q (.uslc (List.replicate (j4 t).length (.bool false)))=(kn.set q (List.replicate (j4 t).length false)).map KR:=(by rw[H9];unfold KR;rw[List.map_replicate]);by_cases M:L=[]
            . have H:FW L=.nils:=(by rw[M];rfl);have bw:i=0:=(by grind);rw[H]at g;have af:CS p c=CS (p+1) (c.set p (R1 L)):=by
               have h1:=b6T (p:=p) (c:=c) [];rw[M];have ab:(CS p c).set p (.agg [DS [],.nils])=CS p c:=by
                apply a3u;intro j;rw[a7R];by_cases hj:p=j
                . grind
                . rw[if_neg hj]
               rw[←ab,h1,show R1 []=[]by simp[R1]]
              subst bw;simp[HPw,VS,E,C,g];refine ar _ _ _ ?_;simp[E,C,g];refine a2H (aG _) ?_;simp[hm,ac,aD,aC,ad,N,af,am];exact al (p+1,c.set p (R1 L),kn.set q (List.replicate (j4 t).length false),last,ver,d,R18,g19,g20,b,⟨_,_,_,_,_,_,_,_,_,_,_,_,_,_,_,_⟩) _ _ i9 ⟨s5,ae,rfl,by simp[HPw,H9]⟩
            . have H:FW L=.uslc (L.map IN):=if_neg M;rw[H]at g;have aE:0<L.length:=a2p.2 M;simp[HPw,VS,E,C,g,bt];refine ar _ _ _ ?_;obtain⟨a,bx⟩:∃a,L.head?=some a:=by
               cases L with
               |nil=>exact absurd rfl M
               |cons a l=>exact⟨a,rfl⟩
              have aF:∀X:PV,((CS p c).set p X)[p]?=some X:=fun X=>(by rw[a7R,if_pos rfl,if_pos i9]);simp[E,C,g,aE,bx,aF];refine a2H (hS 26 (b+1) 0 L _ rfl aE i9) ?_;have ag:=a9O L;have aa:List.map (B4∘IN) (R1 L)=(R1 L).map IN:=K3 fun _ _=>rfl;have af:(CS p c).set p (.agg [.slc ((R1 L).map IN),.nils])=CS (p+1) (c.set p (R1 L)):=by rw[←b6T,show DS (R1 L)=.slc ((R1 L).map IN)from if_neg (fun e=>by rw[e]at ag;simp at ag;omega)]
              simp[hm,ac,aD,aC,ad,N,am,g,ag,aF,aa,af];exact al (p+1,c.set p (R1 L),kn.set q (List.replicate (j4 t).length false),last,ver+2+1,d,R18,g19,g20,b+1,⟨_,_,_,_,_,_,_,_,_,_,_,_,_,_,_,_⟩) _ _ i9 ⟨s5,ae,rfl,by simp[HPw,H9]⟩
       . obtain rfl:p=s.length+1:=i9;simp[HPw,VS];refine aY _ _ _ ?_;simp;refine ah _ [(6,(1,.arr 2 ver false (CS (s.length+1) c))),
          (7,(1,.var (TC t++[St s,.own 5 1 (j4 t).length 3 0 (j4 t).length,.own 10 1 (j4 t).length 1 0 (j4 t).length,.own 6 1 (s.length+1) 2 0 (s.length+1),IN last]))),
          (15,(g15+1,.var [.ptr 7 1 0])),(16,(1,.arr 1 d false (kn.map KR))),(17,(g17,.dead)),(18,R18),(19,(g19,.dead)),(20,(g20,.dead)),(26,(b,.dead))] _ _ ⟨c,kn,last,ver,_,_,_,_,g19,g20,b,rfl,O,rfl⟩ ?_
         simp[M6,X38]
end
def X39:u7:=
 ⟨109,[0,1,2,3,4,5,6,7,8,9,16,37,38,39,40,70,83,84,85,95,96,97,107,108],26,[],sq [.reg [F5 1 21 0],.reg [E7 1 1,D9 0,ou 3 1,ob 1 2,Q8 3,ow 2 (.alloc 22 [.int .i64 0]),ok 1 5 4],.block 0 (.loop (sq [sq [.reg [E7 1 2,odu 10 0 0],B6 10 0],.block 1 (sq [.reg [oef 1 1 23,odo 0 23,ocv 6 1 23,P6 1 2 23,oef 1 2 23,obm 2 3 4 23,ow 3 (.alloc 23 [.lit (.pointer none)]),ok 1 6 5],.reg [oef 1 3 24,E7 1 3,D9 1,ou 0 2,ob 1 3,E0 4,oq (.makeSlice 24 1 8 (.int .i64 0) (.l 5) (.l 5)),D9 0,ou 1 7,ok 1 8 6],sq [.reg [E7 1 3,D9 0,ou 0 1,V8 11 1 2,L9 12 3,ox 13 0],.block 2 (.loop (sq [kh 14 13 12,B6 14 2,.block 3 (sq [.reg [oa 13,U9 1 11 13,ob 1 1,oc 4 0,oc 5 2],.reg [E7 1 3,D9 0,ou 1 1,ob 1 2,oa 4,oj 1 3 4,oq (.store 1 (.l 5) (oi (-1)))],.reg [E7 1 2,E7 1 1,D9 1,ou 3 2,ob 1 3,Q8 4,ocj 0 5,os 6,ocg 1 1 7,obk 8 7,obc 0 9 7,⟨.load true 3 (.l 10),none,some (.l 7,true),[]⟩,ocg 1 1 7,obk 12 7,obc 4 13 7,oe 1 14 7,og 5 7,oas 3 15 16 7,⟨.load true 3 (.l 17),none,some (.l 7,true),[]⟩,obb 30 11 18 0 0 7,P3 15 7 19],.cond (.v 15) (.reg [E7 1 3,D9 0,ou 1 1,ob 1 2,oa 4,oj 1 3 4,oq (.store 1 (.l 5) (oi 0))]) kc]),kd 13 1 13 0]))],.reg [oq (.mkfn (.func 76) [] [.v 1,.v 3,.v 2]),oc 6 0],sq [.reg [E7 1 3,D9 0,ou 0 1,ob 1 2,L9 16 3,ox 17 0],.block 4 (.loop (sq [kh 18 17 16,B6 18 4,.block 5 (sq [kg 17 7 0,.reg [oa 6,oa 7,oq (.cally (.l 0) [.l 1,.c (.bool false)])]]),kd 17 1 17 0]))],kc,.block 6 (.loop (.block 7 (sq [kj 8,sq [.reg [E7 1 3,D9 0,ou 0 1,ob 1 2,L9 19 3,ox 20 0],.block 8 (.loop (sq [kh 21 20 19,B6 21 8,.block 9 (sq [kg 20 9 0,.reg [oa 6,oa 9,oq (.cally (.l 0) [.l 1,.c (.bool true)]),os 2,L4 8 3,P5 3 4,oc 8 5]]),kd 20 1 20 0]))],kak 8 22 0,kav 22 6])))]),sq [.reg [ow 23 (.load false 1 (.v 2))],.reg [ow 2 (.alloc 25 [.int .i64 0]),oq (.store 1 (.l 0) (.v 23))]],.reg [E7 1 2,obh 0 1,M1 1 2 1]]))]⟩
def X76:u7:=
 ⟨104,[0,1,2,3,4,7,8,10,11,12,13,14,27,28,29,30,49,94],27,[(5,none)],sq [kj 5,kj 6,sq [.reg [E7 1 2,D9 0,ou 5 1,ob 1 2,E7 1 3,D9 4,ou 0 5,ob 1 6,oa 0,oj 1 7 8,ob 1 9,oj 1 3 10,V8 12 1 11,L9 13 12,ox 14 0],.block 0 (.loop (sq [kh 15 14 13,B6 15 0,.block 1 (sq [.reg [U9 2 12 14,L6 2 0,ody 7 26 0 0,ok 2 2 1],.reg [E7 1 2,E7 1 4,od 0 7,ob 1 2,oq (.call 74 [.l 0,.l 1,.l 3] [(0,0),(0,0)] false),os 4,oy 5 0,oy 5 1,oc 8 6,oc 9 7],sq [.reg [oa 9,ofl 0,os 1,L4 8 2,⟨.load false 1 (.v 4),none,some (.l 2,false),[]⟩,odb 3 4 2,L4 1 2,⟨.bin .neq true (.l 5) (.l 6),none,some (.l 2,false),[]⟩,U0 16 2 7],kav 16 1],.reg [E7 1 2,D9 0,ou 6 1,ob 1 2,oa 8,oj 2 3 4,od 1 7,ob 1 6,U2 77 5 7 0 0,oc 10 8],.reg [oa 10,E7 1 2,D9 1,ou 0 2,ou 2 3,ob 1 4,od 0 7,ob 1 6,oj 6 5 7,ou 1 8,ob 1 9,E0 10,X2 0 11,oc 11 12],.reg [oa 10,oea 0 0,os 1,ocg 1 3 2,obk 3 2,obc 1 4 2,oe 1 5 2,og 0 2,oas 1 6 7 2,oe 1 8 2,obf 9 0 2,ofu 10 2,L4 11 11,⟨.load false 1 (.v 3),none,some (.l 11,false),[]⟩,⟨.nilchk (.l 13),none,some (.l 11,false),[]⟩,⟨.fieldAddr 1 (.l 14),none,some (.l 11,false),[]⟩,ot 1 15 11,L4 0 11,oci 1 16 17 11,ot 1 18 11,oda 12 19 11,odp 11 20 2,P3 17 2 21],.cond (.v 17) (sq [.reg [E7 1 3,D9 0,ou 1 1,ob 1 2,oa 0,oa 11,oj 1 3 4,ok 1 6 5],kz 6]) kc]),kd 14 1 14 0]))],kg 6 5 0,ko]⟩
theorem c39:O1 Tryz.prog 39 21=some {X39 with body:=strip X39.body}:=by kernel_rfl
theorem c76:O1 Tryz.prog 76 26=some {X76 with body:=strip X76.body}:=by kernel_rfl
abbrev DC(L:List Nat)(D:List Int):PV:=.agg [DS L,.uslc (D.map I)]
@[simp] theorem d0V(l:List Nat):K8 (DS l)=.slc (l.map IN):=by
 unfold DS;split
 . rename_i h;rw[h];rfl
 . rfl
theorem b8k(t:j9)(Y:s8 t)(s:By)(hs:s.length≤1100000000)(aA:Nat)(r0 r1 r2 r3 r4 af ag ah ai r13 aj ak al am an ao ap R22 aq R25 aB:Row)(ad gc ab kp last ver:Nat)
 (K:List PV) (p:Nat) (L:List Nat) (c:Nat→List Nat) (C:Nat→List Int) (D:List Int) (i:Nat) (silent:Bool) (M:Int)
 (aH:kp=22∧R22=(ab,.var [IN p])∨kp=25∧R25=(ab,.var [IN p])) (F:K.length=s.length+1) (hp:p≤s.length) (aI:∀x∈K,D5 x=true)
 (aJ:∀j,p<j→j≤s.length→K[j]?=some (DC (c j) (C j))) (aK:∀j,p<j→j≤s.length→(c j).Pairwise (· < ·)∧(C j).length=(c j).length∧(c j).length≤3072∧∀x∈C j,x≤M)
 (aL:L.Pairwise (· < ·)) (aM:D.length=L.length) (aN:∀x∈L,x<(j4 t).length) (bk:L.length≤3072) (hi:i<L.length) (aO:∀x∈D,x≤M) (bl:0≤M) (bm:M≤1000000000000000):
 ∃r ws,(∃aP aQ aR,r=B (W7 t s p L c C i silent D ((D8 t).getD (L.getD i 0) [])).2∧
  ws=[(6,(1,.arr 2 aP false (K.set p (DC L (W7 t s p L c C i silent D ((D8 t).getD (L.getD i 0) [])).1)))),(26,(aQ,aR))])∧
 FI Tryz.prog (.fn (.func 76) [] [.ptr 21 ad 0,.ptr 23 gc 0,.ptr kp ab 0]) [IN i,B silent] [r0,r1,r2,r3,r4,(1,.arr 3 1 true (E8 (j4 t))),(1,.arr 2 ver false (K.set p (DC L D))),
  (1,.var (TC t++[St s,.own 5 1 (j4 t).length 3 0 (j4 t).length,.own 10 1 (j4 t).length 1 0 (j4 t).length,.own 6 1 (s.length+1) 2 0 (s.length+1),IN last])),
  af,ag,(1,.arr 1 aA true ((D8 t).map SA)),ah,ai,r13,aj,ak,al,am,an,ao,ap,(ad,.var [.ptr 7 1 0]),R22,(gc,.var [.eptr 6 1 (s.length+1) 2 p 0]),aq,R25,aB] r ws:=by
 have aS:=a0G Y;have P:L[i]<(j4 t).length:=aN _ (B7 hi);have aT:L.getD i 0=L[i]:=by rw[u9,m7 hi];rfl
 rw[aT];obtain⟨x,aC⟩:=p7 (L[i]);rw[←aC]at P⊢;obtain⟨A,ar⟩:=p7 (a0z t (j4 t)[x] t.rules.length);have au:(D8 t).length=(j4 t).length:=by simp[D8]
 have aD:(D8 t)[x]'i9=A:=by simp[D8,ar]
 have aU:(D8 t).getD x []=A:=by rw[u9,m7 i9,aD];rfl
 rw[aU];have bn:A.length≤64:=by have:=b0I t (j4 t)[x] t.rules.length;have:=Y.l64;rw[ar];omega
 have aV:∀a∈A,a.1<t.rules.length∧a.2<(j4 t).length:=fun a aW=>b1U Y (B7 P) (ar▸aW) (m9 _);have J:DS L=.slc (L.map IN):=if_neg (fun e=>by subst e;simp at hi);have N:∀X:PV,(K.set p X)[p]?=some X:=fun X=>by rw[a7R,if_pos rfl,if_pos i9]
 have O:(p:Int)<(s.length:Int)+1:=i9;have aE:∀l:List Int,DC L l=.agg [.slc (L.map IN),.uslc (l.map I)]:=fun l=>by unfold DC;rw[J]
 have aX:∀k,(Z:k<A.length)→(A.take (k+1)).foldl (T6 t s p L c C i silent) (D,false)=T6 t s p L c C i silent ((A.take k).foldl (T6 t s p L c C i silent) (D,false)) A[k]:=fun k Z=>by rw[L3,m7 Z,b1J];rfl
 have aY:∀k,((A.take k).foldl (T6 t s p L c C i silent) (D,false)).1.length=L.length:=fun k=>by have:=b6B (t:=t) (s:=s) (p:=p) (L:=L) (c:=c) (C:=C) (i:=i) (silent:=silent) (A.take k) D;rw[←aM];exact this
 have g:∀R5 R6 R7 R10 R21 R23 R26:Row,[r0,r1,r2,r3,r4,R5,R6,R7,af,ag,R10,ah,ai,r13,aj,ak,al,am,an,ao,ap,R21,R22,R23,aq,R25,R26][kp]?=some (ab,.var [IN p]):=fun _ _ _ _ _ _ _=>by rcases aH with⟨rfl,rfl⟩|⟨rfl,rfl⟩<;>rfl
 refine a4x mixed (X:=X76) c76 (by rfl) (by simp[X76]) l5 (by kernel_rfl) fun Q aZ aS=>?_;simp[g,X76,DC,N,J,F,hp,O,hi,←aC,P,au,aD];refine E3 (fun(q:Nat×Nat×Row×PV×PV×PV×PV×PV×PV×PV×PV) vs h=>q.1≤A.length∧(∀x∈((A.take q.1).foldl (T6 t s p L c C i silent) (D,false)).1,x≤M+4*q.1)∧
  vs=[IN i,B silent,.ptr 21 ad 0,.ptr 23 gc 0,.ptr kp ab 0,B false,B ((A.take q.1).foldl (T6 t s p L c C i silent) (D,false)).2,q.2.2.2.1,q.2.2.2.2.1,q.2.2.2.2.2.1,q.2.2.2.2.2.2.1,q.2.2.2.2.2.2.2.1,.slc (A.map ARw),IN A.length,IN q.1,q.2.2.2.2.2.2.2.2.1,q.2.2.2.2.2.2.2.2.2.1,q.2.2.2.2.2.2.2.2.2.2]∧
  h=[r0,r1,r2,r3,r4,(1,.arr 3 1 true (E8 (j4 t))),(1,.arr 2 q.2.1 false (K.set p (.agg [.slc (L.map IN),.uslc (((A.take q.1).foldl (T6 t s p L c C i silent) (D,false)).1.map I)]))),
   (1,.var (TC t++[St s,.own 5 1 (j4 t).length 3 0 (j4 t).length,.own 10 1 (j4 t).length 1 0 (j4 t).length,.own 6 1 (s.length+1) 2 0 (s.length+1),IN last])),
   af,ag,(1,.arr 1 aA true ((D8 t).map SA)),ah,ai,r13,aj,ak,al,am,an,ao,ap,(ad,.var [.ptr 7 1 0]),R22,(gc,.var [.eptr 6 1 (s.length+1) 2 p 0]),aq,R25,q.2.2.1]) (fun q=>A.length-q.1) (0,ver,aB,.uu,.uu,.uu,.uu,.uu,.uu,.uu,.uu) ⟨D6 _,fun x P=>by have:=aO x P;omega,rfl,rfl⟩ ?_
 rintro⟨k,ver,R26,v7,v8,v9,v10,v11,v15,v16,v17⟩ vs h ⟨a0,n,rfl,rfl⟩ Q2 v aF a1;dsimp only at a0 n;by_cases Z:k<A.length
 . have w:=wk1 k i9;obtain⟨o,bo⟩:=aV _ (B7 Z);have u:=aX k Z;have av:=aY k;have z:∀m:Nat,M+4*(m:Int)≤M+4*((m+1:Nat):Int):=fun m=>(by omega);generalize(A.take k).foldl (T6 t s p L c C i silent) (D,false)=st at n u av v aF a1⊢;obtain⟨E,b⟩:=st;dsimp only at n av;have a2:∀X:PV,D5 X=true→(∀x,x∈K.set p X→D5 x=true)=True:=fun X a3=>eq_true fun x P=>by
    rcases a5f P with h|h
    . exact aI x h
    . rw[h];exact a3
   have a4:=a2 (.agg [.slc (L.map IN),.uslc (E.map I)]) rfl;have a5:List.map (B4∘SA) (D8 t)=(D8 t).map SA:=K3 fun _ _=>rfl;have a6:List.take (j4 t).length (List.map SA (D8 t))=(D8 t).map SA:=S7 (by simp[g,au]);have a7:List.take (j4 t).length (List.map SP (j4 t))=(j4 t).map SP:=S7 l5;have aw:=fun a8 a9 ba bb=>b2d t s a8 a9 ba bb p A[k].1 hp hs Y.ok o;have bp:=b2w Y A[k].1 o;have bc:(t.rules[A[k].1]).print.length=C5 t A[k].1:=(by unfold C5;rw[u9,m7 o];rfl);have bd:(t.rules[A[k].1]).print.isPrefixOf (s.drop p)=N8 t s p A[k].1:=(by unfold N8;rw[u9,m7 o];rfl);rw[bd,bc]at aw;simp[g,Z,au,F,a5,a6,a7,a4];obtain⟨nx,aG⟩:=p7 (p+C5 t A[k].1);rw[←aG]at aw;refine m6 (aw _ _ _ _) ?_;cases ax:N8 t s p A[k].1 with
   |false=>
    have f:(A.take (k+1)).foldl (T6 t s p L c C i silent) (D,false)=(E,b):=(by rw[u];unfold T6;rw[ax];rfl);simp[g,w];exact v (k+1,ver,_,_,_,_,_,_,_,_,_) _ _ s5 ⟨s5,fun y d=>by dsimp only at d⊢;rw[f]at d;exact a4I (n y d) (z k),by rw[f];rfl,by rw[f];rfl⟩
   |true=>
    have hle:=a5z ax;by_cases S:decide (C5 t A[k].1=0)=silent
    . have T:i<E.length:=i9;have be:E.getD i 0=E[i]:=(by rw[u9,m7 T];rfl);have G:(t.rules[A[k].1]).cells.length=A7 t A[k].1:=(by unfold A7;rw[u9,m7 o];rfl);have bq:A7 t A[k].1≤4:=G▸(a2w (Y.sound _ (B7 o))).c4;have himp:T6 t s p L c C i silent (E,b) A[k]=(if 0≤K7 t p L c C E A[k]∧(E[i]<0∨K7 t p L c C E A[k]+A7 t A[k].1<E[i])then(E.set i (K7 t p L c C E A[k]+A7 t A[k].1),true)else(E,b)):=by
       unfold T6;rw[if_pos ⟨ax,S⟩];dsimp only;rw[be]
      have bf:0<C5 t A[k].1→∀X:PV,(K.set p X)[p+C5 t A[k].1]?=some (DC (c (p+C5 t A[k].1)) (C (p+C5 t A[k].1))):=fun h X=>by rw[a7R,if_neg i9];exact aJ _ i9 i9
      by_cases U:C5 t A[k].1=0
      . have V:silent=true:=(by rw[←S];simp[g,U]);subst V;have aa:=b1T L E A[k].2 aL i9 av;have ac:K7 t p L c C E A[k]=a0o L E A[k].2:=(by unfold K7;rw[if_pos U]);have ay:a0o L E A[k].2≤M+4*k:=a9f n i9 _;obtain⟨R,ae⟩:=p7 (a0o L E A[k].2);rw[←ae]at aa ac ay;rw[ac]at himp;rw[himp]at u;have W:nx=p:=i9;simp[g,W,N,O,F];refine m6 aa ?_;by_cases h0:0≤R
        . have hw:IntKind.i64.wrap (R+(A7 t A[k].1:Int))=R+(A7 t A[k].1:Int):=I9;by_cases h1:E[i]<0
          . have f:=u.trans (if_pos ⟨h0,.inl h1⟩);simp[g,o,G,hw,h0,h1,N,O,F,T,J,w];exact v (k+1,ver,(R26.1+1,.var [IN A[k].1,IN A[k].2]),_,_,_,_,_,_,_,_) _ _ s5 ⟨s5,fun y d=>by
             dsimp only at d⊢;rw[f]at d;rcases a5f d with d|d
             . exact a4I (n y d) (z k)
             . rw[d];omega,by rw[f];rfl,by rw[f];simp[g,H9]⟩
          . by_cases H:R+(A7 t A[k].1:Int)<E[i]
            . have f:=u.trans (if_pos ⟨h0,.inr H⟩);simp[g,o,G,hw,h0,h1,H,N,O,F,T,J,w];exact v (k+1,ver,(R26.1+1,.var [IN A[k].1,IN A[k].2]),_,_,_,_,_,_,_,_) _ _ s5 ⟨s5,fun y d=>by
               dsimp only at d⊢;rw[f]at d;rcases a5f d with d|d
               . exact a4I (n y d) (z k)
               . rw[d];omega,by rw[f];rfl,by rw[f];simp[g,H9]⟩
            . have f:=u.trans (if_neg (fun e=>e.2.elim h1 H));simp[g,o,G,hw,h0,h1,H,N,O,F,T,J,w];exact v (k+1,ver,_,_,_,_,_,_,_,_,_) _ _ s5 ⟨s5,fun y d=>by dsimp only at d⊢;rw[f]at d;exact a4I (n y d) (z k),by rw[f];rfl,by rw[f];rfl⟩
        . have f:=u.trans (if_neg (fun e=>h0 e.1));simp[g,o,G,h0,w];exact v (k+1,ver,_,_,_,_,_,_,_,_,_) _ _ s5 ⟨s5,fun y d=>by dsimp only at d⊢;rw[f]at d;exact a4I (n y d) (z k),by rw[f];rfl,by rw[f];rfl⟩
      . have V:silent=false:=(by rw[←S];simp[g,U]);subst V;obtain⟨bg,z2,z3,z4⟩:=aK (p+C5 t A[k].1) i9 i9;have aa:=b1T (c (p+C5 t A[k].1)) (C (p+C5 t A[k].1)) A[k].2 bg i9 z2;have ac:K7 t p L c C E A[k]=a0o (c (p+C5 t A[k].1)) (C (p+C5 t A[k].1)) A[k].2:=(by unfold K7;rw[if_neg U]);have ay:a0o (c (p+C5 t A[k].1)) (C (p+C5 t A[k].1)) A[k].2≤M+4*k:=(by have:=a9f (L:=c (p+C5 t A[k].1)) z4 i9 A[k].2;omega);obtain⟨R,ae⟩:=p7 (a0o (c (p+C5 t A[k].1)) (C (p+C5 t A[k].1)) A[k].2);rw[←ae]at aa ac ay;rw[ac]at himp;rw[himp]at u;have W:¬nx=p:=i9;have bh:(nx:Int)<(s.length:Int)+1:=i9;have bi:nx<s.length+1:=i9;have az:=bf i9;rw[←aG]at az aa ae;have bj:∀(X:PV) (h:nx<(K.set p X).length),(K.set p X)[nx]=DC (c nx) (C nx):=fun X h=>by
         have:=az X;rw[m7 h]at this;exact a0c this
        simp[g,bj,W,bh,bi,az,F,DC];refine m6 aa ?_;by_cases h0:0≤R
        . have hw:IntKind.i64.wrap (R+(A7 t A[k].1:Int))=R+(A7 t A[k].1:Int):=I9;by_cases h1:E[i]<0
          . have f:=u.trans (if_pos ⟨h0,.inl h1⟩);simp[g,o,G,hw,h0,h1,N,O,F,T,J,w];exact v (k+1,ver,(R26.1+1,.var [IN A[k].1,IN A[k].2]),_,_,_,_,_,_,_,_) _ _ s5 ⟨s5,fun y d=>by
             dsimp only at d⊢;rw[f]at d;rcases a5f d with d|d
             . exact a4I (n y d) (z k)
             . rw[d];omega,by rw[f];rfl,by rw[f];simp[g,H9]⟩
          . by_cases H:R+(A7 t A[k].1:Int)<E[i]
            . have f:=u.trans (if_pos ⟨h0,.inr H⟩);simp[g,o,G,hw,h0,h1,H,N,O,F,T,J,w];exact v (k+1,ver,(R26.1+1,.var [IN A[k].1,IN A[k].2]),_,_,_,_,_,_,_,_) _ _ s5 ⟨s5,fun y d=>by
               dsimp only at d⊢;rw[f]at d;rcases a5f d with d|d
               . exact a4I (n y d) (z k)
               . rw[d];omega,by rw[f];rfl,by rw[f];simp[g,H9]⟩
            . have f:=u.trans (if_neg (fun e=>e.2.elim h1 H));simp[g,o,G,hw,h0,h1,H,N,O,F,T,J,w];exact v (k+1,ver,_,_,_,_,_,_,_,_,_) _ _ s5 ⟨s5,fun y d=>by dsimp only at d⊢;rw[f]at d;exact a4I (n y d) (z k),by rw[f];rfl,by rw[f];rfl⟩
        . have f:=u.trans (if_neg (fun e=>h0 e.1));simp[g,o,G,h0,w];exact v (k+1,ver,_,_,_,_,_,_,_,_,_) _ _ s5 ⟨s5,fun y d=>by dsimp only at d⊢;rw[f]at d;exact a4I (n y d) (z k),by rw[f];rfl,by rw[f];rfl⟩
    . have f:(A.take (k+1)).foldl (T6 t s p L c C i silent) (D,false)=(E,b):=(by rw[u];unfold T6;rw[if_neg (fun e=>S e.2)]);have br:(decide (C5 t A[k].1=0)==silent)=false:=(by simpa using S);by_cases U:C5 t A[k].1=0
      . have V:silent=false:=(by simpa[U]using S);subst V;have W:nx=p:=i9;simp[g,w,W];exact v (k+1,ver,_,_,_,_,_,_,_,_,_) _ _ s5 ⟨s5,fun y d=>by dsimp only at d⊢;rw[f]at d;exact a4I (n y d) (z k),by rw[f];rfl,by rw[f];rfl⟩
      . have V:silent=true:=(by simpa[U]using S);subst V;have W:¬nx=p:=i9;simp[g,w,W];exact v (k+1,ver,_,_,_,_,_,_,_,_,_) _ _ s5 ⟨s5,fun y d=>by dsimp only at d⊢;rw[f]at d;exact a4I (n y d) (z k),by rw[f];rfl,by rw[f];rfl⟩
 . obtain rfl:k=A.length:=i9;rw[M4];simp;refine aF _ _ _ ?_;simp;refine aZ _ [(6,(1,.arr 2 ver false (K.set p (DC L (W7 t s p L c C i silent D A).1)))),(26,R26)] _ _ ⟨ver,R26.1,R26.2,rfl,rfl⟩ ?_;rw[aE];simp[g,M6,X76];exact⟨rfl,by rw[←aE];rfl⟩
section
variable{D:List Int}{t:j9}{p i:Nat}{L:List Nat}{c:Nat→List Nat}{C:Nat→List Int}{s:By}{A:List (Nat×Nat)}
theorem a7T(t:j9)(s:By)(p:Nat)(L:List Nat)(c:Nat→List Nat)(C:Nat→List Int)(i:Nat)(silent:Bool)(st:List Int×Bool)(a:Nat×Nat):
 (T6 t s p L c C i silent st a=st∧(N8 t s p a.1=true→decide (C5 t a.1=0)=silent→0≤K7 t p L c C st.1 a→0≤st.1.getD i 0∧st.1.getD i 0≤K7 t p L c C st.1 a+A7 t a.1))∨
 (N8 t s p a.1=true∧decide (C5 t a.1=0)=silent∧0≤K7 t p L c C st.1 a∧(st.1.getD i 0<0∨K7 t p L c C st.1 a+A7 t a.1<st.1.getD i 0)∧
  T6 t s p L c C i silent st a=(st.1.set i (K7 t p L c C st.1 a+A7 t a.1),true)):=by
 unfold T6;by_cases h1:N8 t s p a.1=true∧decide (C5 t a.1=0)=silent
 . grind
 . grind
theorem b0O{silent:Bool}(P:List Int×Bool→Prop)
 (hs:∀st a,a∈A→P st→N8 t s p a.1=true→decide (C5 t a.1=0)=silent→0≤K7 t p L c C st.1 a→(st.1.getD i 0<0∨K7 t p L c C st.1 a+A7 t a.1<st.1.getD i 0)→P (st.1.set i (K7 t p L c C st.1 a+A7 t a.1),true))
 (h0:P (D,false)):P (W7 t s p L c C i silent D A):=by
 have key:∀(B:List (Nat×Nat)) (st:List Int×Bool),(∀a∈B,a∈A)→P st→P (B.foldl (T6 t s p L c C i silent) st):=by
  intro B
  induction B with
  |nil=>intro st _ h;exact h
  |cons a B d=>
   intro st e h;rw[a3s];refine d _ (fun b hb=>e b (a5e _ hb)) ?_;rcases a7T t s p L c C i silent st a with⟨h1,_⟩|⟨h1,f,g,j,k⟩
   . rw[h1];exact h
   . grind
 exact key A (D,false) (fun a h=>h) h0
def Imp(D E:List Int):Prop:=E.length=D.length∧∀j,j<D.length→E.getD j 0=D.getD j 0∨(0≤E.getD j 0∧(D.getD j 0<0∨E.getD j 0<D.getD j 0))
theorem Imp.refl(D:List Int):Imp D D:=⟨rfl,fun j _=>.inl rfl⟩
theorem Imp.trans{D E F:List Int}(h:Imp D E)(k:Imp E F):Imp D F:=by refine⟨k.1.trans h.1,fun j hj=>?_⟩;have h1:=h.2 j hj;have a:=k.2 j (by rw[h.1];exact hj);omega
theorem a3x(l:List Int)(i j:Nat)(a:Int):(l.set i a).getD j 0=if j=i∧i<l.length then a else l.getD j 0:=V0 l i j a 0
theorem Imp.set{D:List Int}{i:Nat}{v:Int}(h0:0≤v)(h:D.getD i 0<0∨v<D.getD i 0):Imp D (D.set i v):=by
 refine⟨l5,fun j hj=>?_⟩
 grind
theorem b4U(t:j9)(s:By)(p:Nat)(L:List Nat)(c:Nat→List Nat)(C:Nat→List Int)(i:Nat)(silent:Bool)(D:List Int)(A:List (Nat×Nat)):Imp D (W7 t s p L c C i silent D A).1:=
 b0O (P:=fun st=>Imp D st.1) (fun st a _ h _ _ d b=>h.trans (.set i9 b)) (Imp.refl D)
theorem c9b{silent:Bool}(h:(W7 t s p L c C i silent D A).2=false):
 (W7 t s p L c C i silent D A).1=D∧∀a∈A,N8 t s p a.1=true→decide (C5 t a.1=0)=silent→0≤K7 t p L c C D a→0≤D.getD i 0∧D.getD i 0≤K7 t p L c C D a+A7 t a.1:=by
 have mono:∀(B:List (Nat×Nat)) (st:List Int×Bool),st.2=true→(B.foldl (T6 t s p L c C i silent) st).2=true:=by
  intro B
  induction B with
  |nil=>intro st h;exact h
  |cons a B d=>
   intro st h;rw[a3s];refine d _ ?_;rcases a7T t s p L c C i silent st a with⟨h1,_⟩|⟨_,_,_,_,e⟩
   . rw[h1];exact h
   . rw[e]
 have key:∀(B:List (Nat×Nat)) (st:List Int×Bool),(B.foldl (T6 t s p L c C i silent) st).2=false→(B.foldl (T6 t s p L c C i silent) st).1=st.1∧∀a∈B,N8 t s p a.1=true→decide (C5 t a.1=0)=silent→0≤K7 t p L c C st.1 a→0≤st.1.getD i 0∧st.1.getD i 0≤K7 t p L c C st.1 a+A7 t a.1:=by
  intro B
  induction B with
  |nil=>intro st _;exact⟨rfl,fun a f=>by simp at f⟩
  |cons a B d=>
   intro st h;rw[a3s]at h⊢;rcases a7T t s p L c C i silent st a with⟨h1,g⟩|⟨_,_,_,_,e⟩
   . rw[h1]at h⊢;obtain⟨j,k⟩:=d st h;refine⟨j,fun b hb=>?_⟩;rcases a0p.1 hb with rfl|hb
     . exact g
     . exact k b hb
   . grind
 exact key A (D,false) h
theorem b7f(t:j9)(s:By)(p:Nat)(L:List Nat)(c:Nat→List Nat)(C:Nat→List Int)(i:Nat)(silent:Bool):∀(B:List (Nat×Nat)) (st:List Int×Bool),Imp st.1 (B.foldl (T6 t s p L c C i silent) st).1
 | [],st=>Imp.refl _
 |a::B,st=>by
  rw[a3s];refine Imp.trans ?_ (b7f t s p L c C i silent B _);rcases a7T t s p L c C i silent st a with⟨h1,_⟩|⟨_,_,e,b,d⟩
  . rw[h1];exact Imp.refl _
  . rw[d];exact .set i9 b
theorem a9u{E:List Int}{a:Nat×Nat}(h:¬C5 t a.1=0):K7 t p L c C D a=K7 t p L c C E a:=by unfold K7;rw[if_neg h,if_neg h]
theorem c4F(hi:i<D.length):
 ∀a∈A,N8 t s p a.1=true→¬C5 t a.1=0→0≤K7 t p L c C D a→0≤(W7 t s p L c C i false D A).1.getD i 0∧(W7 t s p L c C i false D A).1.getD i 0≤K7 t p L c C D a+A7 t a.1:=by
 have key:∀(B:List (Nat×Nat)) (st:List Int×Bool),i<st.1.length→∀a∈B,N8 t s p a.1=true→¬C5 t a.1=0→0≤K7 t p L c C D a→0≤(B.foldl (T6 t s p L c C i false) st).1.getD i 0∧(B.foldl (T6 t s p L c C i false) st).1.getD i 0≤K7 t p L c C D a+A7 t a.1:=by
  intro B
  induction B with
  |nil=>intro st _ a d;simp at d
  |cons b B j=>
   intro st g a d h f hr;rw[a3s];rcases a0p.1 d with rfl|d
   . have k:0≤K7 t p L c C st.1 a:=(by rw[a9u (E:=D) f];exact hr);have n:0≤(T6 t s p L c C i false st a).1.getD i 0∧(T6 t s p L c C i false st a).1.getD i 0≤K7 t p L c C D a+A7 t a.1:=by
      rcases a7T t s p L c C i false st a with⟨h1,l⟩|⟨_,_,o,q,m⟩
      . rw[h1,a9u (E:=st.1) f];exact l h (by simp[f]) k
      . have e:K7 t p L c C D a=K7 t p L c C st.1 a:=a9u f;rw[m,a3x,if_pos ⟨rfl,g⟩];omega
     have r:=(b7f t s p L c C i false B (T6 t s p L c C i false st a)).2 i (by rw[b3q];exact g);omega
   . exact j _ (by rw[b3q];exact g) a d h f hr
 exact key A (D,false) hi
def V2(M:Nat)(D:List Int):Nat:=(D.map fun x=>if x<0 then M+1 else x.toNat).sum
theorem Imp.cons{a b:Int}{E:List Int}(h:Imp (a::D) (b::E)):(b=a∨(0≤b∧(a<0∨b<a)))∧Imp D E:=by refine⟨h.2 0 l5,by have:=h.1;simpa using this,fun j hj=>?_⟩;have:=h.2 (j+1) I2;simpa using this
theorem b3d{M:Nat}:∀{D E:List Int},Imp D E→(∀x∈E,x≤M)→V2 M E≤V2 M D∧(V2 M E=V2 M D→E=D)
 | [],E,h,_=>by
  have:E=[]:=a0V.1 h.1
  grind
 |a::D,[],h,_=>by have:=h.1;simp at this
 |a::D,b::E,h,c=>by
  obtain⟨h1,d⟩:=h.cons;obtain⟨f,g⟩:=b3d (M:=M) d fun x e=>c x (a5e _ e);have hb:=c b a3v;have i:V2 M (a::D)=(if a<0 then M+1 else a.toNat)+V2 M D:=by simp[V2]
  have j:V2 M (b::E)=(if b<0 then M+1 else b.toNat)+V2 M E:=by simp[V2]
  grind
def a4h(D:List Int):Nat:=D.countP fun x=>decide (0≤x)
theorem b2C(D:List Int):a4h D≤D.length:=List.countP_le_length
theorem c1N{v:Int}(hi:i<D.length)(a:0≤v):a4h (D.set i v)=if D.getD i 0<0 then a4h D+1 else a4h D:=by
 have b:D.getD i 0=D[i]:=by grind
 unfold a4h
 grind
def Bd(M0:Int)(D:List Int):Prop:=∀x∈D,x≤M0+4*(a4h D:Int)
theorem Bd.set{M0:Int}{D:List Int}{i:Nat}{v:Int}(h:Bd M0 D)(hi:i<D.length)(c:0≤v)(d:D.getD i 0<0∨v<D.getD i 0)(hb:v≤M0+4*(a4h D:Int)+4):Bd M0 (D.set i v):=by
 have e:D.getD i 0=D[i]:=by grind
 have f:=h D[i] (B7 hi);intro x a;rw[c1N hi c];by_cases b:D.getD i 0<0
 . rw[if_pos b];rcases a5f a with a|a
   . have:=h x a;omega
   . omega
 . rw[if_neg b];rcases a5f a with a|a
   . exact h x a
   . omega
theorem Bd.W7{t:j9}{s:By}{p:Nat}{L:List Nat}{c:Nat→List Nat}{C:Nat→List Int}{i:Nat}{silent:Bool}{D:List Int}{A:List (Nat×Nat)}{M0:Int}(h:Bd M0 D)(hi:i<D.length)(n:0≤M0)
 (e:∀a∈A,N8 t s p a.1=true→¬C5 t a.1=0→∀x∈C (p+C5 t a.1),x≤M0) (f:∀a∈A,A7 t a.1≤4):Bd M0 (W7 t s p L c C i silent D A).1:=by
 refine(b0O (P:=fun st=>Bd M0 st.1∧st.1.length=D.length) (fun st a b g j _ o k=>?_) ⟨h,rfl⟩).1;obtain⟨d,l⟩:=g;have hr:K7 t p L c C st.1 a≤M0+4*(a4h st.1:Int):=by
  unfold K7;split
  . exact a9f d i9 _
  . rename_i m;have:=a9f (L:=c (p+C5 t a.1)) (e a b j m) i9 a.2;omega
 have:=f a b;exact⟨d.set i9 i9 k i9,by simp[l]⟩
end
def Pay(t:j9)(s:By)(p x m:Nat):Prop:=∃q:List Nat,∃a,F6 t ((j4 t).getD x D7) q=some a∧C0 t a=true∧J8 t q=s.drop p∧(C8 t q).length=m
theorem b3z{t:j9}{s:By}{p k:Nat}{l:By}(h:s.drop p=(t.rules.getD k default).print++l):N8 t s p k=true∧s.drop (p+C5 t k)=l:=by
 constructor
 . unfold N8
   grind
 . unfold C5;rw[←a2X,h,List.drop_append_of_le_length (m9 _),List.drop_length,a4C]
theorem c0K{t:j9}{s:By}{p k:Nat}(h:N8 t s p k=true):s.drop p=(t.rules.getD k default).print++s.drop (p+C5 t k):=by unfold N8 at h;obtain⟨l,a⟩:=List.isPrefixOf_iff_prefix.1 h;obtain⟨_,b⟩:=b3z (k:=k) a.symm;rw[b,a]
theorem b9D{t:j9}{x:Nat}(a:x<(j4 t).length){k:Nat}{s':State}(h:step t ((j4 t).getD x D7) k=some s'):(k,P4 t s')∈(D8 t).getD x []:=by
 have c:=a2s h;have e:(j4 t).getD x D7=(j4 t)[x]:=by grind
 rw[e]at h;have b:(D8 t).getD x []=a0z t (j4 t)[x] t.rules.length:=by simp[D8,a]
 rw[b];unfold a0z
 grind
theorem a8e{t:j9}{x:Nat}(b:x<(j4 t).length){a:Nat×Nat}(h:a∈(D8 t).getD x []):∃s',step t ((j4 t).getD x D7) a.1=some s'∧a.2=P4 t s':=by
 have e:(j4 t).getD x D7=(j4 t)[x]:=by grind
 have c:(D8 t).getD x []=a0z t (j4 t)[x] t.rules.length:=by simp[D8,b]
 rw[c]at h;unfold a0z at h;obtain⟨k,_,hs⟩:=a9D.1 h;obtain⟨s',d,rfl⟩:=D0.1 hs
 grind
theorem a2z{t:j9}{s:State}(h:s∈j4 t):(j4 t).getD (P4 t s) D7=s:=by rw[u9,b9j h];rfl
theorem a2l{t:j9}{x:Nat}(a:x<(j4 t).length):(j4 t).getD x D7∈j4 t:=by grind
theorem Pay.step{t:j9}(d:s8 t){s:By}{p x m:Nat}(b:x<(j4 t).length){a:Nat×Nat}(e:a∈(D8 t).getD x [])(f:N8 t s p a.1=true)(h:Pay t s (p+C5 t a.1) a.2 m):Pay t s p x (m+A7 t a.1):=by
 obtain⟨s',h1,g⟩:=a8e b e;obtain⟨q,i,c,j,k,l⟩:=h;rw[g,a2z (a0g d (a2l b) h1)]at c;refine⟨a.1::q,i,?_,j,?_,?_⟩
 . show(T.step t _ a.1).bind _=_;rw[h1];exact c
 . rw[c0K f,←k];rfl
 . show(((t.rules.getD a.1 default).cells++C8 t q)).length=_;rw[a0D,l];unfold A7;omega
theorem Pay.stop{t:j9}{s:By}{p x:Nat}(hp:s.length≤p)(h:C0 t ((j4 t).getD x D7)=true):Pay t s p x 0:=
 ⟨[],_,rfl,h,by rw[List.drop_of_length_le hp];rfl,rfl⟩
theorem Pay.low{t:j9}(g:s8 t){s:By}{c:Nat→List Nat}{f:Nat→Nat→Int}(h:∀p x,x∈c p→x<(j4 t).length)
 (i:∀p x,p≤s.length→x∈c p→∀a∈(D8 t).getD x [],N8 t s p a.1=true→a.2∈c (p+C5 t a.1)∧(0≤f (p+C5 t a.1) a.2→0≤f p x∧f p x≤f (p+C5 t a.1) a.2+A7 t a.1))
 (r:∀x,x∈c s.length→C0 t ((j4 t).getD x D7)=true→f s.length x=0):∀(q:List Nat) (p x:Nat) (b:State),p≤s.length→x∈c p→F6 t ((j4 t).getD x D7) q=some b→C0 t b=true→J8 t q=s.drop p→0≤f p x∧f p x≤(C8 t q).length
 | [],p,x,b,hp,d,h1,j,e=>by
  have u:p=s.length:=by
   have:(s.drop p).length=0:=by rw[←e];rfl
   grind
  subst u;obtain rfl:=a0c h1
  grind
 |k::q,p,x,b,hp,d,h1,j,e=>by
  have l:=h p x d;obtain⟨s1,m,v⟩:=Y4.1 (show(T.step t _ k).bind (fun s'=>F6 t s' q)=some b from h1);have hm:=b9D l m;have hd:s.drop p=(t.rules.getD k default).print++J8 t q:=by rw[←e];rfl
  obtain⟨g1,g2⟩:=b3z hd;obtain⟨n,o⟩:=i p x hp d _ hm g1;dsimp only at n o;have w:=a0g g (a2l l) m;have hle:=a5z g1;have y:=Pay.low g h i r q (p+C5 t k) (P4 t s1) b i9 n (by rw[a2z w];exact v) j g2.symm;obtain⟨z,A⟩:=o y.1;refine⟨z,?_⟩;have:(C8 t (k::q)).length=A7 t k+(C8 t q).length:=by show((t.rules.getD k default).cells++C8 t q).length=_;rw[a0D];rfl
  omega
def a4J(t:j9)(s:By)(p:Nat)(L:List Nat)(D:List Int):Prop:=∀i,i<L.length→0≤D.getD i 0→Pay t s p (L.getD i 0) (D.getD i 0).toNat
theorem a4J.find{t:j9}{s:By}{p:Nat}{L:List Nat}{D:List Int}(h:a4J t s p L D)(d:D.length=L.length){x:Nat}(h0:0≤a0o L D x):Pay t s p x (a0o L D x).toNat:=by
 by_cases a:x∈L
 . have hi:L.idxOf x<L.length:=List.idxOf_lt_length_of_mem a;have e:L.idxOf x<D.length:=i9;have b:L.getD (L.idxOf x) 0=x:=(by grind);have c:a0o L D x=D.getD (L.idxOf x) 0:=by
    unfold a0o
    grind
   rw[c]at h0⊢;have:=h _ hi h0;rw[b]at this;exact this
 . unfold a0o at h0;rw[if_neg a]at h0;omega
theorem c8O{t:j9}(g:s8 t){s:By}{p:Nat}{L:List Nat}{c:Nat→List Nat}{C:Nat→List Int}{i:Nat}{silent:Bool}{D:List Int}(hi:i<L.length)(v:D.length=L.length)(k:L.getD i 0<(j4 t).length)
 (h:a4J t s p L D) (l:∀j,p<j→j≤s.length→a4J t s j (c j) (C j)∧(C j).length=(c j).length):a4J t s p L (W7 t s p L c C i silent D ((D8 t).getD (L.getD i 0) [])).1:=by
 refine(b0O (P:=fun st=>a4J t s p L st.1∧st.1.length=D.length) (fun st a m n e _ b w=>?_) ⟨h,rfl⟩).1;obtain⟨f,o⟩:=n;have q:Pay t s (p+C5 t a.1) a.2 (K7 t p L c C st.1 a).toNat:=by
  unfold K7 at b⊢;by_cases d:C5 t a.1=0
  . rw[if_pos d]at b⊢;rw[d];exact f.find i9 b
  . rw[if_neg d]at b⊢;have hle:=a5z e;by_cases r:p+C5 t a.1≤s.length
    . obtain⟨c1,c2⟩:=l (p+C5 t a.1) i9 r;exact c1.find c2 b
    . omega
 have x:=q.step g k m e;refine⟨fun j hj h0=>?_,by simp[o]⟩;rw[a3x]at h0⊢;by_cases u:j=i∧i<st.1.length
 . grind
 . rw[if_neg u]at h0⊢;exact f j hj h0
def Lat(t:j9)(s:By)(p:Nat)(c:Nat→List Nat)(C:Nat→List Int)(M0:Int):Prop:=∀j,p<j→j≤s.length→a4J t s j (c j) (C j)∧(C j).length=(c j).length∧∀x∈C j,x≤M0
structure PI(t:j9)(s:By)(p:Nat)(L:List Nat)(M0:Int)(D:List Int):Prop where
 len:D.length=L.length
 snd:a4J t s p L D
 bd:Bd M0 D
theorem PI.W7{t:j9}(d:s8 t){s:By}{p:Nat}{L:List Nat}{c:Nat→List Nat}{C:Nat→List Int}{i:Nat}{silent:Bool}{D:List Int}{M0:Int}(h:PI t s p L M0 D)(hi:i<L.length)(l:∀x∈L,x<(j4 t).length)(m:0≤M0)(b:Lat t s p c C M0):
 PI t s p L M0 (W7 t s p L c C i silent D ((D8 t).getD (L.getD i 0) [])).1:=by
 have e:L.getD i 0<(j4 t).length:=by rw[u9,m7 hi];exact l _ (B7 hi)
 refine⟨by rw[b6B];exact h.len,c8O d hi h.len e h.snd fun j h1 f=>⟨(b j h1 f).1,(b j h1 f).2.1⟩,h.bd.W7 (by rw[h.len];exact hi) m (fun a g n r x o=>?_) fun a g=>?_⟩
 . have hle:=a5z n;by_cases q:p+C5 t a.1≤s.length
   . exact(b _ i9 q).2.2 x o
   . omega
 . obtain⟨s',h1,_⟩:=a8e e g;have k:=a2s h1;unfold A7;rw[u9,m7 k];exact(a2w (d.sound _ (B7 k))).c4
def LC(t:j9)(s:By)(p:Nat)(L:List Nat)(c:Nat→List Nat)(C:Nat→List Int)(D:List Int)(j:Nat):Prop:=∀a∈(D8 t).getD (L.getD j 0) [],N8 t s p a.1=true→¬C5 t a.1=0→0≤K7 t p L c C D a→0≤D.getD j 0∧D.getD j 0≤K7 t p L c C D a+A7 t a.1
def SC(t:j9)(s:By)(p:Nat)(L:List Nat)(c:Nat→List Nat)(C:Nat→List Int)(D:List Int)(j:Nat):Prop:=∀a∈(D8 t).getD (L.getD j 0) [],N8 t s p a.1=true→C5 t a.1=0→0≤K7 t p L c C D a→0≤D.getD j 0∧D.getD j 0≤K7 t p L c C D a+A7 t a.1
theorem LC.imp{t:j9}{s:By}{p:Nat}{L:List Nat}{c:Nat→List Nat}{C:Nat→List Int}{D E:List Int}{j:Nat}(h:LC t s p L c C D j)(hj:j<D.length)(hi:Imp D E):LC t s p L c C E j:=fun a d e b hr=>by rw[a9u (E:=D) b]at hr⊢;have:=h a d e b hr;have:=hi.2 j hj;omega
theorem c7U{t:j9}{s:By}{p:Nat}{L:List Nat}{c:Nat→List Nat}{C:Nat→List Int}{i:Nat}{silent:Bool}{D:List Int}{A:List (Nat×Nat)}(hi:i<D.length)(h:(W7 t s p L c C i silent D A).2=true):(W7 t s p L c C i silent D A).1≠D:=by
 have key:=b0O (t:=t) (s:=s) (p:=p) (L:=L) (c:=c) (C:=C) (i:=i) (silent:=silent) (A:=A) (D:=D) (P:=fun st=>st.1.length=D.length∧(st.2=false→st.1=D)∧(st.2=true→0≤st.1.getD i 0∧(D.getD i 0<0∨st.1.getD i 0<D.getD i 0)))
  (fun st a j b k hs d f=>by
   obtain⟨h0,h1,g⟩:=b;refine⟨by simp[h0],fun e=>(by cases e),fun _=>?_⟩;dsimp only;rw[a3x,if_pos ⟨rfl,i9⟩];cases hb:st.2 with
   |false=>rw[h1 hb]at f d⊢;omega
   |true=>have:=g hb;omega) ⟨rfl,fun _=>rfl,fun e=>(by cases e)⟩
 have:=key.2.2 h;intro e;rw[e]at this;omega
def Z6(t:j9)(s:By)(p:Nat)(L:List Nat)(k:Nat):List Int:=(List.range L.length).map fun i=>if i<k then(if p=s.length∧C0 t ((j4 t).getD (L.getD i 0) D7)=true then 0 else-1)else 0
theorem b0g(t:j9)(s:By)(p:Nat)(L:List Nat)(k:Nat):(Z6 t s p L k).length=L.length:=by simp[Z6]
theorem b9y{t:j9}{s:By}{p:Nat}{L:List Nat}{k i:Nat}(hi:i<L.length):(Z6 t s p L k).getD i 0=if i<k then(if p=s.length∧C0 t ((j4 t).getD (L.getD i 0) D7)=true then 0 else-1)else 0:=by rw[u9,m7 (by rw[b0g];exact hi)];simp[Z6]
theorem c4V(t:j9)(s:By)(p:Nat)(L:List Nat):Z6 t s p L 0=List.replicate L.length 0:=by apply W3 (by simp[Z6]);intro j h1 a;simp[Z6]
theorem c8E{t:j9}{s:By}{p:Nat}{L:List Nat}{k:Nat}(a:k<L.length):(Z6 t s p L k).set k (if p=s.length∧C0 t ((j4 t).getD (L.getD k 0) D7)=true then 0 else-1)=Z6 t s p L (k+1):=by
 apply W3 (by simp[Z6]);intro j h1 b;have hj:j<L.length:=by simpa[Z6]using h1
 rw[a3w];simp only[Z6,a0b,a3Y];by_cases h:k=j
 . grind
 . omega
theorem c5Q{t:j9}{s:By}{p:Nat}{L:List Nat}{M0:Int}(b:0≤M0):PI t s p L M0 (Z6 t s p L L.length):=by
 refine⟨b0g _ _ _ _ _,fun i hi h0=>?_,fun x a=>?_⟩
 . rw[b9y hi,if_pos hi]at h0⊢;by_cases h:p=s.length∧C0 t ((j4 t).getD (L.getD i 0) D7)=true
   . rw[if_pos h];exact .stop i9 h.2
   . rw[if_neg h]at h0;omega
 . unfold Z6 at a;obtain⟨i,hi,rfl⟩:=E5.1 a;have:(0:Int)≤a4h (Z6 t s p L L.length):=Int.natCast_nonneg _;split
   . split<;>omega
   . omega
def a9e(t:j9)(s:By)(p:Nat)(L:List Nat)(D:List Int):Prop:=∀j,j<L.length→p=s.length→C0 t ((j4 t).getD (L.getD j 0) D7)=true→D.getD j 0=0
theorem c3D(t:j9)(s:By)(p:Nat)(L:List Nat):a9e t s p L (Z6 t s p L L.length):=fun j hj h1 a=>by rw[b9y hj,if_pos hj,if_pos ⟨h1,a⟩]
theorem a9e.imp{t:j9}{s:By}{p:Nat}{L:List Nat}{D E:List Int}(h:a9e t s p L D)(b:D.length=L.length)(hi:Imp D E):a9e t s p L E:=fun j hj h1 a=>by have:=h j hj h1 a;have:=hi.2 j i9;omega
structure PB(t:j9)(s:By)(p:Nat)(L:List Nat)(c:Nat→List Nat)(C:Nat→List Int)(M0:Int)(i:Nat)(D:List Int):Prop where
 pi:PI t s p L M0 D
 fin:a9e t s p L D
 loud:∀j,j<i→LC t s p L c C D j
theorem PB.start{t:j9}{s:By}{p:Nat}{L:List Nat}{c:Nat→List Nat}{C:Nat→List Int}{M0:Int}(a:0≤M0):PB t s p L c C M0 0 (Z6 t s p L L.length):=⟨c5Q a,c3D _ _ _ _,fun j hj=>absurd hj (a7S j)⟩
theorem PB.step{t:j9}(e:s8 t){s:By}{p:Nat}{L:List Nat}{c:Nat→List Nat}{C:Nat→List Int}{M0:Int}{i:Nat}{D:List Int}(h:PB t s p L c C M0 i D)(hi:i<L.length)(f:∀x∈L,x<(j4 t).length)(g:0≤M0)(k:Lat t s p c C M0):
 PB t s p L c C M0 (i+1) (W7 t s p L c C i false D ((D8 t).getD (L.getD i 0) [])).1:=by
 have b:=b4U t s p L c C i false D ((D8 t).getD (L.getD i 0) []);have l:=h.pi.len;refine⟨h.pi.W7 e hi f g k,h.fin.imp l b,fun j hj=>?_⟩;by_cases m:j=i
 . subst m;intro a n o d hr;rw[a9u (E:=D) d]at hr⊢;exact c4F i9 a n o d hr
 . exact(h.loud j i9).imp i9 b
structure PS(t:j9)(s:By)(p:Nat)(L:List Nat)(c:Nat→List Nat)(C:Nat→List Int)(M0:Int)(M:Nat)(D1:List Int)(i:Nat)(D:List Int)(b:Bool):Prop where
 pb:PB t s p L c C M0 L.length D
 same:b=false→D=D1∧∀j,j<i→SC t s p L c C D j
 less:V2 M D≤V2 M D1∧(b=true→V2 M D<V2 M D1)
theorem PS.start{t:j9}{s:By}{p:Nat}{L:List Nat}{c:Nat→List Nat}{C:Nat→List Int}{M0:Int}{M:Nat}{D:List Int}(h:PB t s p L c C M0 L.length D):PS t s p L c C M0 M D 0 D false:=⟨h,fun _=>⟨rfl,fun j hj=>absurd hj (a7S j)⟩,m9 _,fun e=>by cases e⟩
theorem PB.le{t:j9}{s:By}{p:Nat}{L:List Nat}{c:Nat→List Nat}{C:Nat→List Int}{M0:Int}{i:Nat}{D:List Int}(h:PB t s p L c C M0 i D){M:Int}(b:L.length≤3072)(d:M0+12288≤M):∀x∈D,x≤M:=fun x a=>by have h1:=h.pi.bd x a;have e:=b2C D;have f:=h.pi.len;omega
theorem PS.step{t:j9}(m:s8 t){s:By}{p:Nat}{L:List Nat}{c:Nat→List Nat}{C:Nat→List Int}{M0:Int}{M:Nat}{D1:List Int}{i:Nat}{D:List Int}{b:Bool}(h:PS t s p L c C M0 M D1 i D b)(hi:i<L.length)(n:∀x∈L,x<(j4 t).length)(o:L.length≤3072)(q:0≤M0)(u:M0+12288≤M)(v:Lat t s p c C M0):
 PS t s p L c C M0 M D1 (i+1) (W7 t s p L c C i true D ((D8 t).getD (L.getD i 0) [])).1 ((W7 t s p L c C i true D ((D8 t).getD (L.getD i 0) [])).2||b):=by
 have d:=b4U t s p L c C i true D ((D8 t).getD (L.getD i 0) []);have w:=h.pb.pi.len;have f:PB t s p L c C M0 L.length (W7 t s p L c C i true D ((D8 t).getD (L.getD i 0) [])).1:=⟨h.pb.pi.W7 m hi n q v,h.pb.fin.imp w d,fun j hj=>(h.pb.loud j hj).imp i9 d⟩
 obtain⟨m1,m2⟩:=b3d (M:=M) d (f.le o u);have g:=c7U (t:=t) (s:=s) (p:=p) (L:=L) (c:=c) (C:=C) (i:=i) (silent:=true) (D:=D) (A:=(D8 t).getD (L.getD i 0) []) i9;have k:=c9b (t:=t) (s:=s) (p:=p) (L:=L) (c:=c) (C:=C) (i:=i) (silent:=true) (D:=D) (A:=(D8 t).getD (L.getD i 0) []);generalize W7 t s p L c C i true D ((D8 t).getD (L.getD i 0) [])=r at d f m1 m2 g k⊢;obtain⟨E,e⟩:=r;dsimp only at d f m1 m2 g k⊢;cases e with
 |true=>
  have h1:=g rfl;have l:V2 M E<V2 M D:=by grind
  have I:=h.less.1;exact⟨f,fun x=>by simp at x,i9,fun _=>i9⟩
 |false=>
  obtain⟨rfl,l⟩:=k rfl;refine⟨f,fun x=>?_,by simpa using h.less⟩;obtain⟨y,z⟩:=h.same (by simpa using x);refine⟨y,fun j hj=>?_⟩;by_cases B:j=i
  . subst B;intro a F G H hr;exact l a F G (by simp[H]) hr
  . exact z j i9
def FC(c:List (List Nat))(C:List (List Int))(p x:Nat):Int:=a0o (c.getD p []) (C.getD p []) x
structure PQ(t:j9)(s:By)(c:List (List Nat))(C:List (List Int))(q:Nat):Prop where
 cl:C.length=s.length+1
 len:∀j,j≤s.length→s.length<j+q→(C.getD j []).length=(c.getD j []).length
 snd:∀j,j≤s.length→s.length<j+q→a4J t s j (c.getD j []) (C.getD j [])
 bd:∀j,j≤s.length→s.length<j+q→∀x∈C.getD j [],x≤12288*((s.length+1-j:Nat):Int)
 clo:∀j,j≤s.length→s.length<j+q→∀x∈c.getD j [],∀a∈(D8 t).getD x [],N8 t s j a.1=true→0≤FC c C (j+C5 t a.1) a.2→0≤FC c C j x∧FC c C j x≤FC c C (j+C5 t a.1) a.2+A7 t a.1
 fin:0<q→∀x∈c.getD s.length [],C0 t ((j4 t).getD x D7)=true→FC c C s.length x=0
theorem PQ.start(t:j9)(s:By)(c:List (List Nat)):PQ t s c (List.replicate (s.length+1) []) 0:=⟨l5,fun j _ _=>i9,fun j _ _=>i9,fun j _ _=>i9,fun j _ _=>i9,fun h=>i9⟩
theorem PQ.lat{t:j9}{s:By}{c:List (List Nat)}{C:List (List Int)}{q p:Nat}(h:PQ t s c C q)(hp:p+q=s.length):Lat t s p (fun j=>c.getD j []) (fun j=>C.getD j []) (12288*(q:Int)):=fun j h1 a=>
 ⟨h.snd j a i9,h.len j a i9,fun x b=>by have:=h.bd j a i9 x b;omega⟩
theorem b8P{L:List Nat}{D:List Int}(c:D.length=L.length){x:Nat}(a:x∈L):L.idxOf x<L.length∧L.getD (L.idxOf x) 0=x∧a0o L D x=D.getD (L.idxOf x) 0:=by
 have hi:L.idxOf x<L.length:=List.idxOf_lt_length_of_mem a;have b:L.idxOf x<D.length:=i9;refine⟨hi,?_,?_⟩
 . grind
 . unfold a0o;rw[if_pos a,u9,u9,m7 b];rfl
theorem PQ.step{t:j9}{s:By}{c:List (List Nat)}{C:List (List Int)}{q p:Nat}(h:PQ t s c C q)(hp:p+q=s.length){D:List Int}(o:(c.getD p []).length≤3072)
 (hb:PB t s p (c.getD p []) (fun j=>c.getD j []) (fun j=>C.getD j []) (12288*(q:Int)) (c.getD p []).length D)
 (hs:∀j,j<(c.getD p []).length→SC t s p (c.getD p []) (fun j=>c.getD j []) (fun j=>C.getD j []) D j):PQ t s c (C.set p D) (q+1):=by
 have v:p<C.length:=by have:=h.cl;omega
 have e:(C.set p D).getD p []=D:=by grind
 have f:∀j,p<j→(C.set p D).getD j []=C.getD j []:=fun j hj=>by rw[V0,if_neg i9]
 have f0:∀x,FC c (C.set p D) p x=a0o (c.getD p []) D x:=fun x=>by unfold FC;rw[e]
 have f1:∀j x,p<j→FC c (C.set p D) j x=FC c C j x:=fun j x hj=>by unfold FC;rw[f j hj]
 refine⟨by simp[h.cl],fun j h1 k=>?_,fun j h1 k=>?_,fun j h1 k=>?_,fun j h1 k=>?_,fun _=>?_⟩
 . by_cases hj:j=p
   . subst hj;rw[e];exact hb.pi.len
   . rw[f j i9];exact h.len j h1 i9
 . by_cases hj:j=p
   . subst hj;rw[e];exact hb.pi.snd
   . rw[f j i9];exact h.snd j h1 i9
 . by_cases hj:j=p
   . subst hj;rw[e];intro x b;have:=hb.le (M:=12288*(q:Int)+12288) o (Int.le_refl _) x b;omega
   . rw[f j i9];exact h.bd j h1 i9
 . by_cases hj:j=p
   . subst hj;intro x b a n g hr;obtain⟨i,r,l⟩:=b8P (D:=D) hb.pi.len b;rw[f0,l];by_cases d:C5 t a.1=0
     . rw[d,a4B,f0]at hr⊢;have m:K7 t j (c.getD j []) (fun j=>c.getD j []) (fun j=>C.getD j []) D a=a0o (c.getD j []) D a.2:=(by unfold K7;rw[if_pos d]);have:=hs _ i a (by grind) g d i9;rw[m]at this;exact this
     . rw[f1 _ _ i9]at hr⊢;have m:K7 t j (c.getD j []) (fun j=>c.getD j []) (fun j=>C.getD j []) D a=FC c C (j+C5 t a.1) a.2:=(by unfold K7;rw[if_neg d];rfl);have:=hb.loud _ i a (by grind) g d i9;rw[m]at this;exact this
   . intro x b a n g hr;rw[f1 _ _ i9]at hr⊢;rw[f1 _ _ i9];exact h.clo j h1 i9 x b a n g hr
 . intro x b u;by_cases hj:p=s.length
   . subst hj;rw[f0];obtain⟨i,r,l⟩:=b8P (D:=D) hb.pi.len b;rw[l];exact hb.fin _ i rfl (by grind)
   . rw[f1 _ _ i9];exact h.fin i9 x b u
section
variable{n q:Nat}{c:List (List Nat)}{C:List (List Int)}
def W6(n q:Nat)(c:List (List Nat))(C:List (List Int)):List PV:=(List.range (n+1)).map fun j=>if n<j+q then DC (c.getD j []) (C.getD j [])else .agg [DS (c.getD j []),.nils]
theorem b5u(n q:Nat)(c:List (List Nat))(C:List (List Int)):(W6 n q c C).length=n+1:=by simp[W6]
theorem c5H(C:List (List Int))(a:c.length=n+1):CS (n+1) c=W6 n 0 c C:=by
 apply W3 (by simp[CS,W6,a]);intro j h1 b;have hj:j<n+1:=by simpa[W6]using b
 have d:¬n<j+0:=i9;simp only[CS,W6,a0b,a3Y];rw[if_pos hj,if_neg d]
theorem c9L{p:Nat}(hp:p+q=n):(W6 n q c C)[p]?=some (.agg [DS (c.getD p []),.nils]):=by have h1:p<n+1:=i9;have a:¬n<p+q:=i9;simp[W6,h1,a]
theorem c0L{j:Nat}(h1:j≤n)(a:n<j+q):(W6 n q c C)[j]?=some (DC (c.getD j []) (C.getD j [])):=by have h1:j<n+1:=i9;simp[W6,h1,a]
theorem c1x{p:Nat}(hp:p+q=n)(b:C.length=n+1)(D:List Int):(W6 n q c C).set p (DC (c.getD p []) D)=W6 n (q+1) c (C.set p D):=by
 apply W3 (by simp[W6]);intro j h1 a;have hj:j<n+1:=by simpa[W6]using a
 have e:=V0 C p j D [];rw[a3w];simp only[W6,a0b,a3Y]
 grind
theorem c7K(l:List Nat):D5 (.agg [DS l,.nils])=true:=by unfold DS;split<;>rfl
theorem c8R(l:List Nat)(D:List Int):D5 (DC l D)=true:=by unfold DC DS;split<;>rfl
theorem b5j(n q:Nat)(c:List (List Nat))(C:List (List Int)):∀x,x∈W6 n q c C→D5 x=true:=fun x a=>by
 obtain⟨i,_,rfl⟩:=E5.1 a;split
 . exact c8R _ _
 . exact c7K _
abbrev HC(t:j9)(s:By)(a:Nat)(r0 r1 r2 r3 r4 b c d e r13 f g h i j k l:Row)(last ver:Nat)(K:List PV)(R21 R22 R23 R24 R25 R26:Row):l7:=
 [r0,r1,r2,r3,r4,(1,.arr 3 1 true (E8 (j4 t))),(1,.arr 2 ver false K),
  (1,.var (TC t++[St s,.own 5 1 (j4 t).length 3 0 (j4 t).length,.own 10 1 (j4 t).length 1 0 (j4 t).length,.own 6 1 (s.length+1) 2 0 (s.length+1),IN last])),
  b,c,(1,.arr 1 a true ((D8 t).map SA)),d,e,r13,f,g,h,i,j,k,l,R21,R22,R23,R24,R25,R26]
structure PRV where
 (v3 v4 v5 v6 v7 v8 v9 v10 v11 v12 v13 v14 v15 v16 v17 v18 v19 v20 v21 v22 v23:PV)
abbrev VPv(g21:Nat)(v2:PV)(x:PRV):List PV:=[.ptr 7 1 0,.ptr 21 g21 0,v2,x.v3,x.v4,x.v5,x.v6,x.v7,x.v8,x.v9,x.v10,x.v11,x.v12,x.v13,x.v14,x.v15,x.v16,x.v17,x.v18,x.v19,x.v20,x.v21,x.v22,x.v23]
abbrev u0:PRV:=⟨.uu,.uu,.uu,.uu,.uu,.uu,.uu,.uu,.uu,.uu,.uu,.uu,.uu,.uu,.uu,.uu,.uu,.uu,.uu,.uu,.uu⟩
theorem d0l(t:j9)(Y:s8 t)(s:By)(hs:s.length≤1100000000)(J:Nat)(r0 r1 r2 r3 r4 m n o u r13 v w z A F G H a aq aG aH aI:Row)(g24 last ver:Nat)
 (c:List (List Nat)) (kn:List (List Bool)) (S:RI t s (s.length+1) 0 c kn):
 ∃r ws,(∃C N R21 R22 R23 R24 R25 R26,r=.tup []∧PQ t s c C (s.length+1)∧ws=[(6,(1,.arr 2 N false (W6 s.length (s.length+1) c C))),(21,R21),(22,R22),(23,R23),(24,R24),(25,R25),(26,R26)])∧
 FI Tryz.prog (.fn (.func 39) [] []) [.ptr 7 1 0] (HC t s J r0 r1 r2 r3 r4 m n o u r13 v w z A F G H last ver (CS (s.length+1) c) a aq aG (g24,.dead) aH aI) r ws:=by
 have aJ:=a0G Y;have aY:∀st∈j4 t,OkS st:=fun st h=>(a2R Y h).ok;rw[c5H (List.replicate (s.length+1) []) S.len];refine a4x mixed (X:=X39) c39 (by rfl) (by simp[X39]) l5 (by kernel_rfl) fun Q bj aK=>?_;simp[X39,HC];refine E3 (fun(q:Nat×List (List Int)×Nat×Nat×Nat×Int×Row×Row×Nat×Row×Row×PRV) vs h=>q.1≤s.length+1∧PQ t s c q.2.1 q.1∧q.2.2.2.2.2.1=(s.length:Int)-q.1∧
  (q.2.2.1=22∧q.2.2.2.2.2.2.1=(q.2.2.2.1,.var [I q.2.2.2.2.2.1])∨q.2.2.1=25∧q.2.2.2.2.2.2.2.2.2.1=(q.2.2.2.1,.var [I q.2.2.2.2.2.1]))∧
  vs=VPv (a.1+1) (.ptr q.2.2.1 q.2.2.2.1 0) q.2.2.2.2.2.2.2.2.2.2.2∧
  h=HC t s J r0 r1 r2 r3 r4 m n o u r13 v w z A F G H last q.2.2.2.2.1 (W6 s.length q.1 c q.2.1) (a.1+1,.var [.ptr 7 1 0]) q.2.2.2.2.2.2.1 q.2.2.2.2.2.2.2.1 (q.2.2.2.2.2.2.2.2.1,.dead) q.2.2.2.2.2.2.2.2.2.1 q.2.2.2.2.2.2.2.2.2.2.1) (fun q=>s.length+1-q.1)
  (0,List.replicate (s.length+1) [],22,aq.1+1,ver,(s.length:Int),(aq.1+1,.var [I s.length]),aG,g24,aH,aI,u0) ?_ ?_
 . exact⟨D6 _,PQ.start t s c,l5,.inl ⟨rfl,rfl⟩,rfl,rfl⟩
 . rintro⟨q,C,kp,l,ver,pl,R22,R23,g24,R25,R26,⟨v3,v4,v5,v6,v7,v8,v9,v10,v11,v12,v13,v14,v15,v16,v17,v18,v19,v20,v21,v22,v23⟩⟩ vs h ⟨aZ,Z,a0,ae,rfl,rfl⟩ Q2 aL aM bk;dsimp only at aZ Z a0 ae;by_cases bl:q≤s.length
   . obtain⟨p,hp⟩:∃p,p+q=s.length:=⟨s.length-q,i9⟩
     obtain rfl:pl=(p:Int):=i9;have O:(p:Int)<(s.length:Int)+1:=i9;have aN:p≤s.length:=i9;have aO:IntKind.i64.wrap ((p:Int)-1)=(p:Int)-1:=I9;have ak:=c9L (c:=c) (C:=C) hp;have M:=b5u s.length q c C;have al:=b5j s.length q c C;have ar:∀j,p<j→j≤s.length→(W6 s.length q c C)[j]?=some (DC (c.getD j []) (C.getD j [])):=fun j h1 am=>c0L am i9;have au:=Z.lat hp;have aP:∀j,p<j→j≤s.length→(c.getD j []).Pairwise (· < ·)∧(C.getD j []).length=(c.getD j []).length∧(c.getD j []).length≤3072∧∀x∈C.getD j [],x≤12288*((s.length+1:Nat):Int):=fun j h1 am=>
      ⟨S.sorted j i9,Z.len j am i9,V1 (a3H _ _ (S.nodup j) fun y av=>S.lt j y av) aJ,fun x T=>by have:=(au j h1 am).2.2 x T;omega⟩
     have aw:(c.getD p []).Pairwise (· < ·):=S.sorted p i9;have ac:∀x∈c.getD p [],x<(j4 t).length:=fun x T=>S.lt p x T;have aa:(c.getD p []).length≤3072:=V1 (a3H _ _ (S.nodup p) fun y av=>S.lt p y av) aJ;have an:=c1x (c:=c) hp Z.cl;have ax:=fun D=>Z.step (D:=D) hp aa;obtain⟨K,a1⟩:=p7 (W6 s.length q c C);obtain⟨L,a2⟩:=p7 (c.getD p []);rw[←a1]at ak M al ar an⊢;rw[←a2]at ak aw ac aa an ax;have a3:p<K.length:=i9;have P:∀X:PV,(K.set p X)[p]?=some X:=fun X=>(by rw[a7R,if_pos rfl,if_pos a3]);have a4:∀X:PV,D5 X=true→(∀x,x∈K.set p X→D5 x=true)=True:=fun X a5=>eq_true fun x T=>by
      rcases a5f T with h|h
      . exact al x h
      . rw[h];exact a5
     have d:∀R5 R6 R7 R10 R21 R23 R24 R26:Row,[r0,r1,r2,r3,r4,R5,R6,R7,m,n,R10,o,u,r13,v,w,z,A,F,G,H,R21,R22,R23,R24,R25,R26][kp]?=some (l,.var [I p]):=fun _ _ _ _ _ _ _ _=>by rcases ae with⟨rfl,rfl⟩|⟨rfl,rfl⟩<;>rfl
     have f:¬kp=23:=i9;have g:¬kp=24:=i9;have bm:∀X:PV,(K.set p X).length=s.length+1:=fun X=>(by rw[a4D,M]);by_cases aQ:L=[]
     . subst aQ;have a6:PB t s p [] (fun j=>c.getD j []) (fun j=>C.getD j []) (12288*(q:Int)) 0 []:=PB.start (L:=[]) i9;have a7:K[p]?=some (.agg [.nils,.nils]):=ak;simp[d,f,g,HC,VPv,a7,M,O,P];refine E3 (fun(x:Nat×PRV) vs h=>vs=VPv (a.1+1) (.ptr kp l 0) {x.2 with v3:=.ptr 23 (R23.1+1) 0,v11:=.nils,v12:=IN 0,v13:=IN 0}∧
        h=HC t s J r0 r1 r2 r3 r4 m n o u r13 v w z A F G H last x.1 (K.set p (.agg [.nils,.uslc []])) (a.1+1,.var [.ptr 7 1 0]) R22 (R23.1+1,.var [.eptr 6 1 (s.length+1) 2 p 0]) (g24+1,.dead) R25 R26) (fun _=>0) (_,⟨.uu,_,_,_,_,_,_,_,.uu,.uu,.uu,_,_,_,_,_,_,_,_,_,_⟩) ⟨rfl,rfl⟩ ?_
       rintro⟨ver,⟨v3,v4,v5,v6,v7,v8,v9,v10,v11,v12,v13,v14,v15,v16,v17,v18,v19,v20,v21,v22,v23⟩⟩ vs h ⟨rfl,rfl⟩ Q3 ad af aR;simp[d,f,g,HC,VPv];refine af _ _ _ ?_;simp[d,f,g,M,O,P];refine E3 (fun(x:Nat×PRV) vs h=>vs=VPv (a.1+1) (.ptr kp l 0) {x.2 with v3:=.ptr 23 (R23.1+1) 0,v6:=.fn (.func 76) [] [.ptr 21 (a.1+1) 0,.ptr 23 (R23.1+1) 0,.ptr kp l 0],v16:=IN 0,v17:=IN 0}∧
        h=HC t s J r0 r1 r2 r3 r4 m n o u r13 v w z A F G H last x.1 (K.set p (.agg [.nils,.uslc []])) (a.1+1,.var [.ptr 7 1 0]) R22 (R23.1+1,.var [.eptr 6 1 (s.length+1) 2 p 0]) (g24+1,.dead) R25 R26) (fun _=>0) (_,⟨.uu,_,_,.uu,_,_,_,_,_,_,_,_,_,.uu,.uu,_,_,_,_,_,_⟩) ⟨rfl,rfl⟩ ?_
       rintro⟨ver,⟨v3,v4,v5,v6,v7,v8,v9,v10,v11,v12,v13,v14,v15,v16,v17,v18,v19,v20,v21,v22,v23⟩⟩ vs h ⟨rfl,rfl⟩ Q4 aS ay a8;simp[d,f,g,HC,VPv];refine ay _ _ _ ?_;simp;refine E3 (fun(x:Nat×PRV) vs h=>vs=VPv (a.1+1) (.ptr kp l 0) {x.2 with v3:=.ptr 23 (R23.1+1) 0,v6:=.fn (.func 76) [] [.ptr 21 (a.1+1) 0,.ptr 23 (R23.1+1) 0,.ptr kp l 0]}∧
        h=HC t s J r0 r1 r2 r3 r4 m n o u r13 v w z A F G H last x.1 (K.set p (.agg [.nils,.uslc []])) (a.1+1,.var [.ptr 7 1 0]) R22 (R23.1+1,.var [.eptr 6 1 (s.length+1) 2 p 0]) (g24+1,.dead) R25 R26) (fun _=>0) (_,⟨.uu,_,_,.uu,_,_,_,_,_,_,_,_,_,_,_,_,_,_,_,_,_⟩) ⟨rfl,rfl⟩ ?_
       rintro⟨ver,⟨v3,v4,v5,v6,v7,v8,v9,v10,v11,v12,v13,v14,v15,v16,v17,v18,v19,v20,v21,v22,v23⟩⟩ vs h ⟨rfl,rfl⟩ Q5 az aA a9;simp[d,f,g,HC,VPv,M,O,P];refine E3 (fun(x:Nat×PRV) vs h=>vs=VPv (a.1+1) (.ptr kp l 0) {x.2 with v3:=.ptr 23 (R23.1+1) 0,v6:=.fn (.func 76) [] [.ptr 21 (a.1+1) 0,.ptr 23 (R23.1+1) 0,.ptr kp l 0],v8:=B false,v19:=IN 0,v20:=IN 0}∧
        h=HC t s J r0 r1 r2 r3 r4 m n o u r13 v w z A F G H last x.1 (K.set p (.agg [.nils,.uslc []])) (a.1+1,.var [.ptr 7 1 0]) R22 (R23.1+1,.var [.eptr 6 1 (s.length+1) 2 p 0]) (g24+1,.dead) R25 R26) (fun _=>0) (_,⟨.uu,_,_,.uu,_,.uu,_,_,_,_,_,_,_,_,_,_,.uu,.uu,_,_,_⟩) ⟨rfl,rfl⟩ ?_
       rintro⟨ver,⟨v3,v4,v5,v6,v7,v8,v9,v10,v11,v12,v13,v14,v15,v16,v17,v18,v19,v20,v21,v22,v23⟩⟩ vs h ⟨rfl,rfl⟩ Q6 bn ba bo;simp[d,f,g,HC,VPv];refine ba _ _ _ ?_;simp;refine aA _ _ _ ?_;simp[d,f,g,aO];exact aL (q+1,C.set p [],25,R25.1+1,_,(p:Int)-1,R22,(R23.1+1,.var [.eptr 6 1 (s.length+1) 2 p 0]),g24+1,(R25.1+1,.var [I ((p:Int)-1)]),_,⟨_,_,_,_,_,_,_,_,_,_,_,_,_,_,_,_,_,_,_,_,_⟩) _ _ i9 ⟨s5,ax [] a6 (fun j hj=>absurd hj (a7S j)),s5,.inr ⟨rfl,rfl⟩,rfl,by dsimp only;rw[←an []];rfl⟩
     . have aT:DS L=.slc (L.map IN):=if_neg aQ;have aB:∀D,DC L D=.agg [.slc (L.map IN),.uslc (D.map I)]:=fun D=>(by unfold DC;rw[aT]);have bb:List.replicate L.length (I 0)=(Z6 t s p L 0).map I:=(by rw[c4V,List.map_replicate]);have hlen:(L.length:Int)≤3072:=i9;have bc:L.length≤9223372036854775807:=i9;have bd:(L.length:Int)*8≤140737488355328:=i9;have aU:∀D:List Int,(∀x,x∈K.set p (.agg [.slc (L.map IN),.uslc (D.map I)])→D5 x=true)=True:=fun D=>a4 _ rfl;simp[d,f,g,HC,VPv,ak,M,O,aT,P,hlen,bc,bd,bb,b0g];refine E3 (fun(x:Nat×Nat×PRV) vs h=>x.1≤L.length∧vs=VPv (a.1+1) (.ptr kp l 0) {x.2.2 with v3:=.ptr 23 (R23.1+1) 0,v11:=.slc (L.map IN),v12:=IN L.length,v13:=IN x.1}∧
        h=HC t s J r0 r1 r2 r3 r4 m n o u r13 v w z A F G H last x.2.1 (K.set p (.agg [.slc (L.map IN),.uslc ((Z6 t s p L x.1).map I)])) (a.1+1,.var [.ptr 7 1 0]) R22 (R23.1+1,.var [.eptr 6 1 (s.length+1) 2 p 0]) (g24+1,.dead) R25 R26) (fun x=>L.length-x.1) (0,_,⟨.uu,_,_,_,_,_,_,_,.uu,.uu,.uu,_,_,_,_,_,_,_,_,_,_⟩) ⟨D6 _,rfl,rfl⟩ ?_
       rintro⟨k,ver,⟨v3,v4,v5,v6,v7,v8,v9,v10,v11,v12,v13,v14,v15,v16,v17,v18,v19,v20,v21,v22,v23⟩⟩ vs h ⟨aC,rfl,rfl⟩ Q3 ad af aR;dsimp only at aC;by_cases ag:k<L.length
       . have aD:=wk1 k i9;have T:L[k]<(j4 t).length:=ac _ (B7 ag);have ab:=c8E (t:=t) (s:=s) (p:=p) ag;have aE:=b0g t s p L k;have be:(j4 t).getD (L.getD k 0) D7=(j4 t)[L[k]]:=(by grind);rw[be]at ab;have bf:List.take (j4 t).length (List.map SP (j4 t))=(j4 t).map SP:=S7 l5;by_cases ao:p=s.length
         . have aF:(p=s.length)=True:=eq_true ao;have bg:=a7m t (j4 t)[L[k]] Y.ok (aY _ (B7 T));simp[d,f,g,HC,VPv,ag,M,O,P,aE,aF,T,bf];refine m6 bg ?_;cases aV:C0 t (j4 t)[L[k]]with
           |true=>
            rw[if_pos ⟨ao,aV⟩]at ab;have ah:((Z6 t s p L k).map I).set k (I 0)=(Z6 t s p L (k+1)).map I:=(by rw[←ab,H9]);simp[d,f,g,ag,M,O,P,aE,aD,ah];exact ad (k+1,_,⟨.uu,_,_,_,_,_,_,_,.uu,.uu,.uu,_,_,_,_,_,_,_,_,_,_⟩) _ _ i9 ⟨s5,rfl,rfl⟩
           |false=>
            rw[if_neg (fun e=>by rw[aV]at e;exact absurd e.2 I7)]at ab;have ah:((Z6 t s p L k).map I).set k (I (-1))=(Z6 t s p L (k+1)).map I:=(by rw[←ab,H9]);simp[d,f,g,aD,ah];exact ad (k+1,_,⟨.uu,_,_,_,_,_,_,_,.uu,.uu,.uu,_,_,_,_,_,_,_,_,_,_⟩) _ _ i9 ⟨s5,rfl,rfl⟩
         . have aF:(p=s.length)=False:=eq_false ao;rw[if_neg (fun e=>ao e.1)]at ab;have ah:((Z6 t s p L k).map I).set k (I (-1))=(Z6 t s p L (k+1)).map I:=(by rw[←ab,H9]);simp[d,f,g,HC,VPv,ag,M,O,P,aE,aF,aD,ah];exact ad (k+1,_,⟨.uu,_,_,_,_,_,_,_,.uu,.uu,.uu,_,_,_,_,_,_,_,_,_,_⟩) _ _ i9 ⟨s5,rfl,rfl⟩
       obtain rfl:k=L.length:=i9;simp[d,f,g,HC,VPv];refine af _ _ _ ?_;simp[d,f,g,M,O,P];refine E3 (fun(x:Nat×List Int×Nat×Row×PRV) vs h=>x.1≤L.length∧PB t s p L (fun j=>c.getD j []) (fun j=>C.getD j []) (12288*(q:Int)) x.1 x.2.1∧vs=VPv (a.1+1) (.ptr kp l 0) {x.2.2.2.2 with v3:=.ptr 23 (R23.1+1) 0,v6:=.fn (.func 76) [] [.ptr 21 (a.1+1) 0,.ptr 23 (R23.1+1) 0,.ptr kp l 0],v16:=IN L.length,v17:=IN x.1}∧
        h=HC t s J r0 r1 r2 r3 r4 m n o u r13 v w z A F G H last x.2.2.1 (K.set p (.agg [.slc (L.map IN),.uslc (x.2.1.map I)])) (a.1+1,.var [.ptr 7 1 0]) R22 (R23.1+1,.var [.eptr 6 1 (s.length+1) 2 p 0]) (g24+1,.dead) R25 x.2.2.2.1) (fun x=>L.length-x.1) (0,Z6 t s p L L.length,_,_,⟨.uu,_,_,.uu,_,_,_,_,_,_,_,_,_,.uu,.uu,_,_,_,_,_,_⟩) ⟨D6 _,PB.start i9,rfl,rfl⟩ ?_
       rintro⟨i,D,ver,R26,⟨v3,v4,v5,v6,v7,v8,v9,v10,v11,v12,v13,v14,v15,v16,v17,v18,v19,v20,v21,v22,v23⟩⟩ vs h ⟨aC,U,rfl,rfl⟩ Q3 ad af aR;dsimp only at aC U;by_cases hi:i<L.length
       . have ap:=wk1 i i9;obtain⟨r,ws,⟨N,ai,aj,rfl,rfl⟩,R⟩:=b8k t Y s hs J r0 r1 r2 r3 r4 m n o u r13 v w z A F G H R22 (g24+1,.dead) R25 R26 (a.1+1) (R23.1+1) l kp last ver K p L (fun j=>c.getD j []) (fun j=>C.getD j []) D i false (12288*((s.length+1:Nat):Int)) ae M aN al ar aP aw (U.pi.len) ac aa hi (U.le aa i9) i9 i9;have V:=U.step Y hi ac i9 au;obtain⟨r,hr⟩:∃r,r=W7 t s p L (fun j=>c.getD j []) (fun j=>C.getD j []) i false D ((D8 t).getD (L.getD i 0) []):=⟨_,rfl⟩
         rw[←hr]at R V;obtain⟨D2,aW⟩:=r;simp only[aB]at R;dsimp only at R V;have hu:p8 (HC t s J r0 r1 r2 r3 r4 m n o u r13 v w z A F G H last ver (K.set p (.agg [.slc (L.map IN),.uslc (D.map I)])) (a.1+1,.var [.ptr 7 1 0]) R22 (R23.1+1,.var [.eptr 6 1 (s.length+1) 2 p 0]) (g24+1,.dead) R25 R26) [(6,(1,.arr 2 N false (K.set p (.agg [.slc (L.map IN),.uslc (D2.map I)])))),(26,(ai,aj))]=HC t s J r0 r1 r2 r3 r4 m n o u r13 v w z A F G H last N (K.set p (.agg [.slc (L.map IN),.uslc (D2.map I)])) (a.1+1,.var [.ptr 7 1 0]) R22 (R23.1+1,.var [.eptr 6 1 (s.length+1) 2 p 0]) (g24+1,.dead) R25 (ai,aj):=rfl;simp[d,f,g,HC,VPv,hi,aU];refine a4w R hu rfl ?_;simp[d,f,g,HC,ap];exact ad (i+1,D2,N,_,⟨.uu,_,_,.uu,_,_,_,_,_,_,_,_,_,.uu,.uu,_,_,_,_,_,_⟩) _ _ i9 ⟨s5,V,rfl,rfl⟩
       . obtain rfl:i=L.length:=i9;simp[d,f,g,HC,VPv];refine af _ _ _ ?_;simp[d,f,g,M,O,P];refine E3 (fun(x:List Int×Nat×Row×PRV) vs h=>PB t s p L (fun j=>c.getD j []) (fun j=>C.getD j []) (12288*(q:Int)) L.length x.1∧vs=VPv (a.1+1) (.ptr kp l 0) {x.2.2.2 with v3:=.ptr 23 (R23.1+1) 0,v6:=.fn (.func 76) [] [.ptr 21 (a.1+1) 0,.ptr 23 (R23.1+1) 0,.ptr kp l 0]}∧
         h=HC t s J r0 r1 r2 r3 r4 m n o u r13 v w z A F G H last x.2.1 (K.set p (.agg [.slc (L.map IN),.uslc (x.1.map I)])) (a.1+1,.var [.ptr 7 1 0]) R22 (R23.1+1,.var [.eptr 6 1 (s.length+1) 2 p 0]) (g24+1,.dead) R25 x.2.2.1) (fun x=>V2 (12288*(q+1)) x.1) (D,_,_,⟨.uu,_,_,.uu,_,_,_,_,_,_,_,_,_,_,_,_,_,_,_,_,_⟩) ⟨U,rfl,rfl⟩ ?_
         rintro⟨D,ver,R26,⟨v3,v4,v5,v6,v7,v8,v9,v10,v11,v12,v13,v14,v15,v16,v17,v18,v19,v20,v21,v22,v23⟩⟩ vs h ⟨U,rfl,rfl⟩ Q4 aS ay a8;dsimp only at U;simp[d,f,g,HC,VPv,M,O,P];refine E3 (fun(x:Nat×List Int×Bool×Nat×Row×PRV) vs h=>x.1≤L.length∧PS t s p L (fun j=>c.getD j []) (fun j=>C.getD j []) (12288*(q:Int)) (12288*(q+1)) D x.1 x.2.1 x.2.2.1∧vs=VPv (a.1+1) (.ptr kp l 0) {x.2.2.2.2.2 with v3:=.ptr 23 (R23.1+1) 0,v6:=.fn (.func 76) [] [.ptr 21 (a.1+1) 0,.ptr 23 (R23.1+1) 0,.ptr kp l 0],v8:=B x.2.2.1,v19:=IN L.length,v20:=IN x.1}∧
         h=HC t s J r0 r1 r2 r3 r4 m n o u r13 v w z A F G H last x.2.2.2.1 (K.set p (.agg [.slc (L.map IN),.uslc (x.2.1.map I)])) (a.1+1,.var [.ptr 7 1 0]) R22 (R23.1+1,.var [.eptr 6 1 (s.length+1) 2 p 0]) (g24+1,.dead) R25 x.2.2.2.2.1) (fun x=>L.length-x.1) (0,D,false,_,_,⟨.uu,_,_,.uu,_,.uu,_,_,_,_,_,_,_,_,_,_,.uu,.uu,_,_,_⟩) ⟨D6 _,.start U,rfl,rfl⟩ ?_
         rintro⟨i,E,b,ver,R26,⟨v3,v4,v5,v6,v7,v8,v9,v10,v11,v12,v13,v14,v15,v16,v17,v18,v19,v20,v21,v22,v23⟩⟩ vs h ⟨bh,W,rfl,rfl⟩ Q5 az aA a9;dsimp only at bh W;by_cases hi:i<L.length
         . have ap:=wk1 i i9;obtain⟨r,ws,⟨N,ai,aj,rfl,rfl⟩,R⟩:=b8k t Y s hs J r0 r1 r2 r3 r4 m n o u r13 v w z A F G H R22 (g24+1,.dead) R25 R26 (a.1+1) (R23.1+1) l kp last ver K p L (fun j=>c.getD j []) (fun j=>C.getD j []) E i true (12288*((s.length+1:Nat):Int)) ae M aN al ar aP aw (W.pb.pi.len) ac aa hi (W.pb.le aa i9) i9 i9;have V:=W.step Y hi ac aa i9 i9 au;obtain⟨r,hr⟩:∃r,r=W7 t s p L (fun j=>c.getD j []) (fun j=>C.getD j []) i true E ((D8 t).getD (L.getD i 0) []):=⟨_,rfl⟩
           rw[←hr]at R V;obtain⟨D2,aW⟩:=r;simp only[aB]at R;dsimp only at R V;have hu:p8 (HC t s J r0 r1 r2 r3 r4 m n o u r13 v w z A F G H last ver (K.set p (.agg [.slc (L.map IN),.uslc (E.map I)])) (a.1+1,.var [.ptr 7 1 0]) R22 (R23.1+1,.var [.eptr 6 1 (s.length+1) 2 p 0]) (g24+1,.dead) R25 R26) [(6,(1,.arr 2 N false (K.set p (.agg [.slc (L.map IN),.uslc (D2.map I)])))),(26,(ai,aj))]=HC t s J r0 r1 r2 r3 r4 m n o u r13 v w z A F G H last N (K.set p (.agg [.slc (L.map IN),.uslc (D2.map I)])) (a.1+1,.var [.ptr 7 1 0]) R22 (R23.1+1,.var [.eptr 6 1 (s.length+1) 2 p 0]) (g24+1,.dead) R25 (ai,aj):=rfl;simp[d,f,g,HC,VPv,hi,aU];refine a4w R hu rfl ?_;cases aW with
           |true=>
            simp[d,f,g,HC,ap];exact az (i+1,D2,true,N,_,⟨.uu,_,_,.uu,_,.uu,_,_,_,_,_,_,_,_,_,_,.uu,.uu,_,_,_⟩) _ _ i9 ⟨s5,V,rfl,rfl⟩
           |false=>
            simp[d,f,g,HC,ap];exact az (i+1,D2,b,N,_,⟨.uu,_,_,.uu,_,.uu,_,_,_,_,_,_,_,_,_,_,.uu,.uu,_,_,_⟩) _ _ i9 ⟨s5,V,rfl,rfl⟩
         . obtain rfl:i=L.length:=i9;simp[d,f,g,HC,VPv];refine aA _ _ _ ?_;cases b with
           |true=>
            simp;exact aS (E,ver,_,⟨.uu,_,_,.uu,_,_,_,_,_,_,_,_,_,_,_,_,_,_,_,_,_⟩) _ _ (W.less.2 rfl) ⟨W.pb,rfl,rfl⟩
           |false=>
            obtain⟨bp,bi⟩:=W.same rfl;simp;refine ay _ _ _ ?_;simp[d,f,g,aO];exact aL (q+1,C.set p E,25,R25.1+1,_,(p:Int)-1,R22,(R23.1+1,.var [.eptr 6 1 (s.length+1) 2 p 0]),g24+1,(R25.1+1,.var [I ((p:Int)-1)]),_,⟨_,_,_,_,_,_,_,_,_,_,_,_,_,_,_,_,_,_,_,_,_⟩) _ _ i9 ⟨s5,ax E W.pb bi,s5,.inr ⟨rfl,rfl⟩,rfl,by dsimp only;rw[←an E,aB];rfl⟩
   . obtain rfl:q=s.length+1:=i9;have aX:¬0≤pl:=i9;rcases ae with⟨rfl,rfl⟩|⟨rfl,rfl⟩
     . simp[HC,VPv,aX];refine aM _ _ _ ?_;simp;refine aK _ [(6,(1,.arr 2 ver false (W6 s.length (s.length+1) c C))),(21,(a.1+1,.var [.ptr 7 1 0])),(22,(l,.var [I pl])),(23,R23),(24,(g24,.dead)),(25,R25),(26,R26)] _ _ ⟨C,ver,_,_,_,_,_,_,rfl,Z,rfl⟩ ?_;simp[M6,X39,HC]
     . simp[HC,VPv,aX];refine aM _ _ _ ?_;simp;refine aK _ [(6,(1,.arr 2 ver false (W6 s.length (s.length+1) c C))),(21,(a.1+1,.var [.ptr 7 1 0])),(22,R22),(23,R23),(24,(g24,.dead)),(25,(l,.var [I pl])),(26,R26)] _ _ ⟨C,ver,_,_,_,_,_,_,rfl,Z,rfl⟩ ?_;simp[M6,X39,HC]
end
section
def wrS(t:j9)(s:By)(F:Nat→Nat→Int)(p x:Nat)(m:Int):Option (Nat×Nat):=((D8 t).getD x []).find? fun a=>N8 t s p a.1&&decide (0≤F (p+C5 t a.1) a.2)&&decide (F (p+C5 t a.1) a.2=m-A7 t a.1)
def wr(t:j9)(s:By)(F:Nat→Nat→Int):Nat→Nat→Nat→Int→List Nat
 |0,_,_,_=>[]
 |n+1,p,x,m=>if 0<m then match wrS t s F p x m with
  |some a=>a.1::wr t s F n (p+C5 t a.1) a.2 (m-A7 t a.1)
  |none=>[]
  else []
structure a2C(t:j9)(s:By)(c:List (List Nat))(C:List (List Int)):Prop where
 lt:∀p x,x∈c.getD p []→x<(j4 t).length
 root:0∈c.getD 0 []
 sorted:∀p,p≤s.length→(c.getD p []).Pairwise (· < ·)
 le:∀p,p≤s.length→(c.getD p []).length≤3072
 next:∀p x,p≤s.length→x∈c.getD p []→∀a∈(D8 t).getD x [],N8 t s p a.1=true→a.2∈c.getD (p+C5 t a.1) []
 pq:PQ t s c C (s.length+1)
theorem a7n{t:j9}(b:s8 t){s s':State}{k:Nat}(h:step t s k=some s'):1≤A7 t k:=by have a:=a2s h;unfold A7;rw[u9,m7 a];exact(a2w (b.sound _ (B7 a))).c1
theorem b7r{t:j9}(b:s8 t){s s':State}{k:Nat}(h:step t s k=some s'):A7 t k≤4:=by have a:=a2s h;unfold A7;rw[u9,m7 a];exact(a2w (b.sound _ (B7 a))).c4
theorem b1F(t:j9)(k:Nat)(q:List Nat):(C8 t (k::q)).length=A7 t k+(C8 t q).length:=by show((t.rules.getD k default).cells++C8 t q).length=_;rw[a0D];rfl
theorem a3R(t:j9)(k:Nat)(q:List Nat):J8 t (k::q)=(t.rules.getD k default).print++J8 t q:=rfl
namespace a2C
variable{t:j9}{s:By}{c:List (List Nat)}{C:List (List Int)}
theorem low(h:a2C t s c C)(i:s8 t){q:List Nat}{p x:Nat}{d:State}(hp:p≤s.length)(b:x∈c.getD p [])(h1:F6 t ((j4 t).getD x D7) q=some d)(j:C0 t d=true)(k:J8 t q=s.drop p):0≤FC c C p x∧FC c C p x≤(C8 t q).length:=
 Pay.low (f:=FC c C) (c:=fun p=>c.getD p []) i (fun p x b=>h.lt p x b) (fun p x hp b a e g=>⟨h.next p x hp b a e g,h.pq.clo p hp i9 x b a e g⟩) (h.pq.fin i9) q p x d hp b h1 j k
theorem pay(h:a2C t s c C){p x:Nat}(hp:p≤s.length)(h0:0≤FC c C p x):Pay t s p x (FC c C p x).toNat:=
 (h.pq.snd p hp i9).find (h.pq.len p hp i9) h0
theorem bd(h:a2C t s c C){p x:Nat}(hp:p≤s.length):FC c C p x≤12288*((s.length+1:Nat):Int):=
 a9f (L:=c.getD p []) (fun y a=>by have:=h.pq.bd p hp i9 y a;omega) i9 x
theorem b8W(h:a2C t s c C)(g:s8 t){p x:Nat}(hp:p≤s.length)(f:x∈c.getD p [])(h0:0<FC c C p x):∃a,wrS t s (FC c C) p x (FC c C p x)=some a:=by
 obtain⟨q,n,d,o,e,b⟩:=h.pay hp (Int.le_of_lt h0)
 match q,d,e,b with
 | [],d,e,b=>simp[C8]at b;omega
 |k::q,d,e,b=>
  have i:=h.lt p x f;obtain⟨s1,j,r⟩:=Y4.1 (show(T.step t _ k).bind (fun s'=>F6 t s' q)=some n from d);have hm:=b9D i j;have hd:s.drop p=(t.rules.getD k default).print++J8 t q:=by rw[←e];rfl
  obtain⟨g1,g2⟩:=b3z hd;have hle:=a5z g1;have u:=a0g g (a2l i) j;have l:=h.next p x hp f _ hm g1;dsimp only at l;obtain⟨m,y⟩:=h.low g (show p+C5 t k≤s.length by omega) l (by rw[a2z u];exact r) o g2.symm;have v:=h.pq.clo p hp i9 x f _ hm g1 m;dsimp only at v;rw[b1F]at b;unfold wrS;cases w:((D8 t).getD x []).find? fun a=>N8 t s p a.1&&decide (0≤FC c C (p+C5 t a.1) a.2)&&decide (FC c C (p+C5 t a.1) a.2=FC c C p x-A7 t a.1)with
  |some a=>exact⟨a,rfl⟩
  |none=>
   have:=List.find?_eq_none.1 w _ hm;refine absurd ?_ this;simp only[G4,decide_eq_true_eq];exact⟨⟨g1,m⟩,i9⟩
theorem c1j(h:a2C t s c C)(d:s8 t){p x:Nat}(hp:p≤s.length)(e:x∈c.getD p []){m:Int}{a:Nat×Nat}(f:wrS t s (FC c C) p x m=some a):
 a∈(D8 t).getD x []∧N8 t s p a.1=true∧FC c C (p+C5 t a.1) a.2=m-A7 t a.1∧0≤m-A7 t a.1∧p+C5 t a.1≤s.length∧a.2∈c.getD (p+C5 t a.1) []∧1≤A7 t a.1∧A7 t a.1≤4:=by
 have h1:=List.find?_some f;have b:=List.mem_of_find?_eq_some f;simp only[G4,decide_eq_true_eq]at h1;obtain⟨⟨g1,g2⟩,g3⟩:=h1;have hle:=a5z g1;obtain⟨s',g,_⟩:=a8e (h.lt p x e) b;exact⟨b,g1,g3,i9,i9,h.next p x hp e a b g1,a7n d g,b7r d g⟩
theorem c0r(h:a2C t s c C)(d:s8 t):∀(n p x:Nat),p≤s.length→x∈c.getD p []→0≤FC c C p x→FC c C p x≤n→
 ∃b,F6 t ((j4 t).getD x D7) (wr t s (FC c C) n p x (FC c C p x))=some b∧C0 t b=true∧J8 t (wr t s (FC c C) n p x (FC c C p x))=s.drop p∧((C8 t (wr t s (FC c C) n p x (FC c C p x))).length:Int)=FC c C p x
 |n,p,x,hp,g,h0,v=>by
  by_cases r:FC c C p x=0
  . have e:wr t s (FC c C) n p x (FC c C p x)=[]:=by
     cases n with
     |zero=>rfl
     |succ n=>unfold wr;rw[if_neg i9]
    rw[e];obtain⟨q,b,f,u,i,j⟩:=h.pay hp h0
    match q,f,i,j with
    | [],f,i,j=>exact⟨b,f,u,i,by rw[r];rfl⟩
    |k::q,f,i,j=>
     obtain⟨s1,l,m⟩:=Y4.1 (show(T.step t _ k).bind (fun s'=>F6 t s' q)=some b from f);have:=a7n d l;rw[b1F]at j;omega
  . match n with
    |0=>omega
    |n+1=>
     obtain⟨a,o⟩:=h.b8W d hp g i9;obtain⟨r1,r2,r3,r4,r5,r6,w,y⟩:=h.c1j d hp g o;have e:wr t s (FC c C) (n+1) p x (FC c C p x)=a.1::wr t s (FC c C) n (p+C5 t a.1) a.2 (FC c C (p+C5 t a.1) a.2):=by
      rw[r3]
      conv=>lhs;unfold wr
      rw[if_pos i9,o]
     rw[e];obtain⟨b,w1,w2,w3,w4⟩:=c0r h d n (p+C5 t a.1) a.2 r5 r6 i9 i9;obtain⟨s',l,m⟩:=a8e (h.lt p x g) r1;rw[m,a2z (a0g d (a2l (h.lt p x g)) l),←m]at w1;refine⟨b,?_,w2,?_,?_⟩
     . show(T.step t _ a.1).bind _=_;rw[l];exact w1
     . rw[a3R,w3,←c0K r2]
     . rw[b1F];omega
end a2C
theorem RI.a2T{t:j9}(b:s8 t){s:By}{c:List (List Nat)}{kn:List (List Bool)}{C:List (List Int)}(h:RI t s (s.length+1) 0 c kn)(d:PQ t s c C (s.length+1)):a2C t s c C:=
 ⟨h.lt,h.root,fun p hp=>h.sorted p i9,fun p hp=>V1 (a3H _ _ (h.nodup p) fun y e=>h.lt p y e) (a0G b),fun p x hp f a g i=>by have:=h.done p i9 x f;unfold Cl at this;rw[M4]at this;exact this a g i,d⟩
end
def KF(n:Nat)(c:List (List Nat))(C:List (List Int)):List PV:=(List.range (n+1)).map fun j=>.agg [.slc ((c.getD j []).map IN),.slc ((C.getD j []).map I)]
theorem c6t(n:Nat)(c:List (List Nat))(C:List (List Int)):(KF n c C).length=n+1:=by simp[KF]
theorem c1X{n:Nat}{c:List (List Nat)}{C:List (List Int)}(j:Nat)(h:j<(KF n c C).length):(KF n c C)[j]=.agg [.slc ((c.getD j []).map IN),.slc ((C.getD j []).map I)]:=by simp[KF]
def InC(c:List (List Nat))(p x:Nat):Prop:=x∈c.getD p []
abbrev WR(t:j9)(q:List Nat):PV:=.agg [.uslc ((C8 t q).map UN),.uslc (q.map IN)]
theorem c8I(t:j9)(f:s8 t)(s:By)(hs:s.length≤1100000000)(c:List (List Nat))(C:List (List Int))(b:a2C t s c C)(o q:PV)(h0:0≤FC c C 0 0):
 F0 40 [1,1] [.fptr [IN t.modes,UN t.accept,.slc (t.rules.map RP),St s,o,.slc ((D8 t).map SA),.slc (KF s.length c C),q]] (WR t (wr t s (FC c C) (FC c C 0 0).toNat 0 0 (FC c C 0 0))):=by
 have ad:=a0G f;have ae:(D8 t).length=(j4 t).length:=by simp[D8]
 have M:=c6t s.length c C;have aJ:=b.sorted;have N:∀j x,j≤s.length→F0 77 [0] [.fptr [.slc ((c.getD j []).map IN),.slc ((C.getD j []).map I)],IN x] (I (FC c C j x)):=fun j x hj=>b1T _ _ x (b.sorted j hj) (by have:=b.le j hj;omega) (b.pq.len j hj i9);have aK:=b.bd (p:=0) (x:=0) (D6 _);obtain⟨W,O⟩:=p7 (wr t s (FC c C) (FC c C 0 0).toNat 0 0 (FC c C 0 0));rw[←O];have P:=@c1X s.length c C;refine E4 c40 14 (by simp[X40]) fun Q af ad=>?_;simp[X40,M,P];refine m6 (N 0 0 (D6 _)) ?_;simp;refine I6 (fun(y:Nat×Nat×Int×List Nat×Nat) vs h=>y.1≤s.length∧InC c y.1 y.2.1∧y.2.2.1=FC c C y.1 y.2.1∧0≤y.2.2.1∧y.2.2.1≤y.2.2.2.2∧y.2.2.2.1++wr t s (FC c C) y.2.2.2.2 y.1 y.2.1 y.2.2.1=W∧((C8 t y.2.2.2.1).length:Int)+y.2.2.1=FC c C 0 0∧y.2.2.2.1.length+y.2.2.2.2=(FC c C 0 0).toNat∧
  vs=[.fptr [IN t.modes,UN t.accept,.slc (t.rules.map RP),St s,o,.slc ((D8 t).map SA),.slc (KF s.length c C),q],.ptr 6 1 0,.ptr 7 1 0,IN y.1,IN y.2.1,I y.2.2.1,.uu,.uu,.uu,.uu,.uu,.uu,.uu,.uu,.uu,.uu,.uu,.uu]∧
  h=[dd,dd,dd,dd,dd,dd,(1,.var [.nils,.nils]),(1,.var [.own 8 1 (C8 t y.2.2.2.1).length 1 0 (C8 t y.2.2.2.1).length,.own 9 1 y.2.2.2.1.length 1 0 y.2.2.2.1.length]),(1,.arr 1 0 false ((C8 t y.2.2.2.1).map UN)),(1,.arr 1 0 false (y.2.2.2.1.map IN)),dd,dd,dd,dd])
  (fun y=>y.2.2.1.toNat) (0,0,FC c C 0 0,[],(FC c C 0 0).toNat) ?_ ?_
 . simp[C8,O];exact⟨b.root,h0,i9⟩
 . rintro⟨p,x,m,pre,g⟩ vs h ⟨r,u,S,ag,ah,v,T,ai,rfl,rfl⟩ Q2 aj ak aL;dsimp only at r u S ag ah v T ai;have D:=b.lt p x u;have U:∀a∈(D8 t).getD x [],a.1<t.rules.length∧a.2<(j4 t).length:=fun a d=>by
    obtain⟨s',V,al⟩:=a8e D d;exact⟨a2s V,by rw[al];exact a3e (a0g f (a2l D) V)⟩
   obtain⟨A,am⟩:=p7 ((D8 t).getD x []);have X:(D8 t)[x]'i9=A:=(by grind);have aM:A.length≤64:=by have h1:A=a0z t (j4 t)[x] t.rules.length:=(by rw[←X];simp[D8]);have:=b0I t (j4 t)[x] t.rules.length;have:=f.l64;rw[h1];omega
   by_cases hm:0<m
   . obtain⟨a,d⟩:=b.b8W f r u i9;obtain⟨aN,z2,z3,z4,z5,an,aO,aP⟩:=b.c1j f r u d;rw[←S]at d;have ao:=d;unfold wrS at d;rw[←am]at d U;obtain⟨C1,Y⟩:=p7 (C8 t pre);rw[←Y]at T⊢;simp[hm,ae,D,X];refine I6 (fun(k:Nat) vs h=>k≤A.length∧((A.drop k).find? fun a=>N8 t s p a.1&&decide (0≤FC c C (p+C5 t a.1) a.2)&&decide (FC c C (p+C5 t a.1) a.2=m-A7 t a.1))=some a∧
      vs=[.fptr [IN t.modes,UN t.accept,.slc (t.rules.map RP),St s,o,.slc ((D8 t).map SA),.slc (KF s.length c C),q],.ptr 6 1 0,.ptr 7 1 0,IN p,.uu,I m,.uu,.uu,.uu,.uu,.uu,.uu,.slc (A.map ARw),IN A.length,IN k,.uu,.uu,.uu]∧
      h=[dd,dd,dd,dd,dd,dd,(1,.var [.nils,.nils]),(1,.var [.own 8 1 C1.length 1 0 C1.length,.own 9 1 pre.length 1 0 pre.length]),(1,.arr 1 0 false (C1.map UN)),(1,.arr 1 0 false (pre.map IN)),dd,dd,dd,dd])
      (fun k=>A.length-k) 0 ?_ ?_
     . simp[d]
     . rintro k vs h ⟨g1,g2,rfl,rfl⟩ Q3 E ap aQ;by_cases l:k<A.length
       . have F:=wk1 k i9;obtain⟨i,aR⟩:=U _ (B7 l);have Z:=fun aq ar=>b2d t s o aq ar q p A[k].1 r hs f.ok i;have au:(t.rules[A[k].1]).print.length=C5 t A[k].1:=(by unfold C5;rw[u9,m7 i];rfl);have av:(t.rules[A[k].1]).print.isPrefixOf (s.drop p)=N8 t s p A[k].1:=(by unfold N8;rw[u9,m7 i];rfl);have w:(t.rules[A[k].1]).cells.length=A7 t A[k].1:=(by unfold A7;rw[u9,m7 i];rfl);have aw:t.rules.getD A[k].1 default=t.rules[A[k].1]:=(by grind);have aS:A7 t A[k].1≤4:=w▸(a2w (f.sound _ (B7 i))).c4;rw[av,au]at Z;rw[b4R l,List.find?_cons]at g2;simp[l];refine m6 (Z _ _) ?_;cases G:N8 t s p A[k].1 with
         |false=>
          rw[G]at g2;simp[F];exact E (k+1) _ _ i9 (by simp;exact⟨i9,g2⟩)
         |true=>
          have hle:=a5z G;have H:=N (p+C5 t A[k].1) A[k].2 i9;rw[G]at g2;obtain⟨R,aa⟩:=p7 (FC c C (p+C5 t A[k].1) A[k].2);have ax:=b.bd (p:=p+C5 t A[k].1) (x:=A[k].2) i9;rw[←aa]at H g2 ax;obtain⟨nx,z⟩:=p7 (p+C5 t A[k].1);rw[←z]at H⊢;have aT:(nx:Int)<(s.length:Int)+1:=i9;have ay:nx<s.length+1:=i9;have ab:IntKind.i64.wrap (m-(A7 t A[k].1:Int))=m-(A7 t A[k].1:Int):=I9;simp[l,i,M,P,ay];refine m6 H ?_;by_cases J:R<0
          . have ac:¬0≤R:=i9;have g3:=g2;simp[ac]at g3;simp[J,F];exact E (k+1) _ _ i9 (by simp;exact⟨i9,g3⟩)
          . by_cases B:R=m-(A7 t A[k].1:Int)
            . have ac:0≤R:=i9;have hb:(true&&decide (0≤R)&&decide (R=m-(A7 t A[k].1:Int)))=true:=(by grind);rw[hb]at g2;obtain rfl:A[k]=a:=a0c g2;obtain⟨C2,K⟩:=p7 (C8 t (pre++[A[k].1]));have aU:C2=C1++t.rules[A[k].1].cells:=(by rw[K,b1c,←Y];simp only[C8,a2Z,List.flatMap_nil,a1u,aw]);have az:C1.map UN++t.rules[A[k].1].cells.map UN=C2.map UN:=(by grind);have aA:C1.length+(t.rules[A[k].1]).cells.length=C2.length:=(by grind);have aB:C2.length=C1.length+A7 t A[k].1:=(by rw[←aA,w]);obtain⟨P2,L⟩:=p7 (pre++[A[k].1]);have aC:pre.map IN++[IN A[k].1]=P2.map IN:=(by grind);have aD:pre.length+1=P2.length:=(by rw[L];simp);have aE:C2.length≤140737488355328:=i9;have aF:P2.length*8≤140737488355328:=i9;have aG:P2.length≤140737488355328:=i9;have aH:IntKind.i64.wrap (m-(A7 t A[k].1:Int))=R:=(by rw[ab,B]);have aI:C1.length+A7 t A[k].1=C2.length:=aB.symm;simp[J,w,aH,l,i,az,aI,aC,aD,aE,aF,aG];refine ap _ _ _ ?_;simp;cases g with
              |zero=>omega
              |succ g=>
               refine aj (nx,A[k].2,R,P2,g) _ _ (by grind) ?_;rw[←L]at K;have hw:wr t s (FC c C) (g+1) p x m=A[k].1::wr t s (FC c C) g nx A[k].2 R:=by
                rw[B,z]
                conv=>lhs;unfold wr
                rw[if_pos hm,ao]
               simp[←K];refine⟨i9,by rw[z];exact an,by rw[aa,z],i9,i9,?_,i9,i9⟩;rw[L,a3t,←v,hw];rfl
            . simp[J,B,w,ab,F];have g3:=g2;simp[B]at g3;exact E (k+1) _ _ i9 (by simp;exact⟨i9,g3⟩)
       . grind
   . have aV:m=0:=i9;simp[hm];refine ak _ _ _ ?_;have e:wr t s (FC c C) g p x m=[]:=by
      cases g with
      |zero=>rfl
      |succ n=>unfold wr;rw[if_neg hm]
     rw[e,a1u]at v;subst v;simp;refine af _ _ ?_;simp[X40]
def gTo(g:State→Nat→Option (Nat×Nat))(s:State)(n:Nat):List (Nat×Nat):=(List.range n).filterMap (g s)
def gL(g:State→Nat→Option (Nat×Nat))(t:j9):List (List (Nat×Nat)):=(j4 t).map fun s=>gTo g s t.rules.length
def gU(g:State→Nat→Option (Nat×Nat))(t:j9)(k j:Nat):List (List (Nat×Nat)):=(List.range (j4 t).length).map fun i=>if i<k then gTo g ((j4 t).getD i D7) t.rules.length else if i=k then gTo g ((j4 t).getD i D7) j else []
section
variable{g:State→Nat→Option (Nat×Nat)}{t:j9}
theorem b9H(s:State):gTo g s 0=[]:=rfl
theorem b0G(s:State)(n:Nat):gTo g s (n+1)=gTo g s n++(g s n).toList:=by unfold gTo;rw[a2q,b4P];cases h:g s n<;>simp[h]
theorem a8j(s:State)(n:Nat):(gTo g s n).length≤n:=by have:=List.length_filterMap_le (g s) (List.range n);simpa[gTo]using this
theorem a9v(k j:Nat):(gU g t k j).length=(j4 t).length:=by simp[gU]
theorem b3E:gU g t 0 0=List.replicate (j4 t).length []:=by refine a7Q.2 ⟨a9v 0 0,fun b hb=>?_⟩;obtain⟨i,_,rfl⟩:=E5.1 hb;simp[b9H]
theorem b4F(k:Nat):gU g t k t.rules.length=gU g t (k+1) 0:=by
 unfold gU;refine K3 fun i _=>?_;by_cases h1:i<k
 . simp[h1,show i<k+1 by omega]
 . by_cases a:i=k
   . subst a;simp
   . have b:¬i<k+1:=i9;simp[h1,a,b,b9H]
theorem a7D:gU g t (j4 t).length 0=gL g t:=by
 apply W3 (by simp[gU,gL]);intro i h1 a;have hi:i<(j4 t).length:=by simpa[gL]using a
 simp[gU,gL,hi]
theorem b1p{k:Nat}(a:k<(j4 t).length)(j:Nat):(gU g t k j)[k]'(by rw[a9v];exact a)=gTo g (j4 t)[k] j:=by simp[gU,a]
theorem b0F{k:Nat}(a:k<(j4 t).length)(j:Nat):gU g t k (j+1)=(gU g t k j).set k (gTo g (j4 t)[k] (j+1)):=by
 apply W3 (by simp[gU]);intro i h1 b;have hi:i<(j4 t).length:=by simpa[gU]using h1
 rw[a3w];simp only[gU,a0b,a3Y];by_cases h:k=i
 . subst h;simp[a]
 . grind
theorem a9k{k:Nat}(a:k<(j4 t).length){j:Nat}(h:g (j4 t)[k] j=none):gU g t k (j+1)=gU g t k j:=by
 rw[b0F a,b0G,h];apply W3 l5;intro i h1 b;rw[a3w];split
 . rename_i e;subst e;rw[b1p a];simp
 . rfl
end
open Classical in
noncomputable def E6(t:j9)(s:State)(k:Nat):Option (Nat×Nat):=(step t s k).bind fun s'=>if Live t s' then some (k,P4 t s')else none
def L1(t:j9)(s:State)(k:Nat):Option (Nat×Nat):=(step t s k).map fun s'=>(k,P4 t s')
theorem a8A(t:j9):(M8 t).length=(j4 t).length:=by simp[M8]
open Classical in
theorem b2Y{t:j9}{s:State}(h:s∈j4 t):(M8 t)[P4 t s]'(by rw[a8A];exact a3e h)=decide (Live t s):=by have h1:=b9j h;rw[m7 (a3e h)]at h1;simp only[M8,a0b,a0c h1]
def a0r(t:j9)(k:Nat):List Bool:=(List.range (j4 t).length).map fun i=>decide (i<k)&&C0 t ((j4 t).getD i D7)
def N6(t:j9):List Bool:=(j4 t).map (C0 t)
theorem b1H(t:j9)(k:Nat):(a0r t k).length=(j4 t).length:=by simp[a0r]
theorem b3P(t:j9):a0r t 0=List.replicate (j4 t).length false:=by refine a7Q.2 ⟨b1H t 0,fun b hb=>?_⟩;obtain⟨i,_,rfl⟩:=E5.1 hb;simp
theorem a7h(t:j9):a0r t (j4 t).length=N6 t:=by
 apply W3 (by simp[a0r,N6]);intro i h1 a;have hi:i<(j4 t).length:=by simpa[N6]using a
 simp[a0r,N6,hi]
theorem b4B{t:j9}{k:Nat}(a:k<(j4 t).length):(a0r t k).set k (C0 t (j4 t)[k])=a0r t (k+1):=by
 apply W3 (by simp[a0r]);intro i h1 b;have hi:i<(j4 t).length:=by simpa[a0r]using b
 rw[a3w];simp only[a0r,a0b,a3Y];by_cases h:k=i
 . subst h;simp[a]
 . grind
def prt(t:j9)(k:Nat):By:=(t.rules.getD k default).print
def cls(t:j9)(k:Nat):List Nat:=(t.rules.getD k default).cells
def X78:u7:=
 ⟨109,[0,1,2,3,4,5,6,7,8,9,10,11,12,13,19,20,21,22,40,41,42,43,57,58,59,60,82],13,[(2,none)],sq [.reg [F5 1 0 0,odl 2],.reg [oh 3 1,T9 71 0 1 3,oc 3 1],.reg [oa 3,E0 0,oq (.makeMap 2 (some (.l 1))),oc 4 2],sq [ks 14 3 15 0 16 0,.block 0 (.loop (sq [kh 17 16 15,B6 17 0,.block 1 (sq [kae 16 3 14 16 3 1 6 3 0 0 0 5 0 3 3 2,.reg [oa 4,oh 3 6,oa 5,ods 46 0 1 2]]),kd 16 1 16 0]))],.reg [obr 3 5 6,⟨.len false (.l 0),none,none,[5,6]⟩,⟨.makeSlice 4 1 24 .nils (.l 1) (.l 1),none,none,[5,6]⟩,obr 3 4 6,⟨.len false (.l 3),none,none,[4,6]⟩,⟨.makeSlice 5 1 1 (.bool false) (.l 4) (.l 4),none,none,[4,6]⟩,⟨.load true 3 (.v 1),none,none,[4,5]⟩,⟨.call 87 [.l 6] [(6,1)] false,none,none,[4,5]⟩,oq (.build [.nils,.nils,.nils] [(0,1,.l 2),(1,1,.l 5),(2,1,.l 7)]),oq (.box 7 (.l 8)),oc 7 9],sq [ks 18 3 19 0 20 0,.block 2 (.loop (sq [kh 21 20 19,B6 21 2,.block 3 (sq [kae 20 3 18 20 3 1 9 8 0 0 0 8 0 3 3 2,.reg [oa 7,D9 0,ou 1 1,ob 1 2,oa 8,oh 3 1,oh 3 9,U2 30 5 6 0 0,oj 1 3 4,ok 1 8 7],.reg [od 2 1,V8 22 1 0,L9 23 1,ox 24 0],.block 4 (.loop (sq [kh 25 24 23,B6 25 4,.block 5 (sq [.reg [oa 24,U9 6 22 24,L6 6 1,oax 11 9 0 0 0 0,oc 10 0,ok 6 3 2],.reg [oh 3 1,oh 3 9,oa 10,odd 50 0 1 2 0 0 0 0 0 0 0 0,os 3,oy 4 0,oy 4 1,oak 12 10 0 0 0,ok 3 7 5,oc 13 6],.reg [oa 13,os 0,og 7 1,obk 2 1,obc 2 3 1,oe 1 4 1,og 4 1,obo 3 12 1,⟨.lookup 46 false (.int .i64 0) (.l 6) (.l 7),none,some (.l 1,true),[]⟩,oas 1 5 8 1,oe 1 9 1,P3 26 1 10],.cond (.v 26) (.G5 8 none 26010 0 (.reg [obr 7 11 12,odv 0 11 12,oco 0 1 11 12,oeg 1 2 11 12,obr 8 11 12,J0 7 11,odo 5 11,ocv 0 6 11,P6 1 7 11,J0 8 11,obm 1 8 9 11,P6 1 10 11,od 0 11,ob 1 12,od 1 11,ob 1 14,oa 4,oh 3 12,ofj 46 0 16 17,oq (.build [.str ⟨#[]⟩,.nils,.int .i64 0] [(0,1,.l 13),(1,1,.l 15),(2,1,.l 18)]),oq (.mkarr 11 3 [.agg [.str ⟨#[]⟩,.nils,.int .i64 0]] [(0,.l 19)]),J3 12 3 48 1 11 20,oj 1 3 4,ok 1 22 21])) kc]),kd 24 1 24 0]))]),kd 20 1 20 0]))],kg 7 2 0,.G7 [(4,true),(5,true),(6,true)] (.G5 2 none 1 0 ko)]⟩
def X51:u7:=
 ⟨110,[0,1,2,3,4,5,6,7,8,9,10,11,12,13,14,22,23,24,25,44,45,46,47,61,62,63,64,83],13,[(2,none)],sq [.reg [F5 1 0 0,odl 2],.reg [oh 3 1,T9 71 0 1 3,obw 3 1 1,T9 87 2 2 1,oc 3 1,oc 4 3],.reg [oa 3,E0 0,oq (.makeMap 3 (some (.l 1))),oc 5 2],sq [ks 15 3 16 0 17 0,.block 0 (.loop (sq [kh 18 17 16,B6 18 0,.block 1 (sq [kae 17 3 15 17 3 1 7 4 0 0 0 6 0 3 3 2,.reg [oa 5,oh 3 7,oa 6,ods 46 0 1 2]]),kd 17 1 17 0]))],.reg [J0 3 6,⟨.len false (.l 0),none,none,[6]⟩,⟨.makeSlice 5 1 24 .nils (.l 1) (.l 1),none,none,[6]⟩,J0 3 5,⟨.len false (.l 3),none,none,[5]⟩,⟨.makeSlice 6 1 1 (.bool false) (.l 4) (.l 4),none,none,[5]⟩,obr 4 5 6,⟨.indexAddr 1 (.l 6) (oi 0),none,none,[5,6]⟩,ode 1 7 5 6,oq (.build [.nils,.nils,.bool false] [(0,1,.l 2),(1,1,.l 5),(2,1,.l 8)]),oq (.box 7 (.l 9)),oc 8 10],sq [ks 19 3 20 0 21 0,.block 2 (.loop (sq [kh 22 21 20,B6 22 2,.block 3 (sq [kae 21 3 19 21 3 1 10 8 0 0 0 9 0 3 3 2,.reg [oa 8,D9 0,ou 1 1,ob 1 2,oa 9,oh 3 1,oh 3 10,U2 30 5 6 0 0,oj 1 3 4,ok 1 8 7],.reg [od 2 1,V8 23 1 0,L9 24 1,ox 25 0],.block 4 (.loop (sq [kh 26 25 24,B6 26 4,.block 5 (sq [.reg [oa 25,U9 6 23 25,L6 6 1,oax 12 9 0 0 0 0,oc 11 0,ok 6 3 2],.reg [oh 3 1,oh 3 10,oa 11,odd 50 0 1 2 0 0 0 0 0 0 0 0,os 3,oy 4 0,oy 4 1,oak 13 10 0 0 0,ok 3 7 5,oc 14 6],.reg [oa 14,os 0,og 4 1,og 5 1,obo 3 13 1,⟨.lookup 46 false (.int .i64 0) (.l 3) (.l 4),none,some (.l 1,true),[]⟩,oas 1 2 5 1,oe 1 6 1,P3 27 1 7],.cond (.v 27) (.G5 9 none 26012 0 (.reg [obr 8 11 12,odv 0 11 12,oco 0 1 11 12,oeg 1 2 11 12,obr 9 11 12,J0 8 11,odo 5 11,ocv 0 6 11,P6 1 7 11,J0 9 11,obm 1 8 9 11,P6 1 10 11,od 0 12,ob 1 12,od 1 12,ob 1 14,oa 5,oh 3 13,ofj 46 0 16 17,oq (.build [.str ⟨#[]⟩,.nils,.int .i64 0] [(0,1,.l 13),(1,1,.l 15),(2,1,.l 18)]),oq (.mkarr 11 3 [.agg [.str ⟨#[]⟩,.nils,.int .i64 0]] [(0,.l 19)]),J3 12 3 48 1 11 20,oj 1 3 4,ok 1 22 21])) kc]),kd 25 1 25 0]))]),kd 21 1 21 0]))],kg 8 2 0,.G7 [(5,true),(6,true)] (.G5 2 none 1 0 ko)]⟩
def X56:u7:=
 ⟨97,[0,1,2,3,4,5,6,7,8,9,10,11,12,13,19,20,21,22,38,39,40,41,55,56,57,58,69],12,[(2,none)],sq [.reg [F5 1 0 0,odl 2],.reg [oh 3 1,T9 71 0 1 3,oc 3 1],.reg [oa 3,E0 0,oq (.makeMap 2 (some (.l 1))),oc 4 2],sq [ks 14 3 15 0 16 0,.block 0 (.loop (sq [kh 17 16 15,B6 17 0,.block 1 (sq [kae 16 3 14 16 3 1 6 3 0 0 0 5 0 3 3 2,.reg [oa 4,oh 3 6,oa 5,ods 46 0 1 2]]),kd 16 1 16 0]))],.reg [J0 3 5,⟨.len false (.l 0),none,none,[5]⟩,⟨.makeSlice 4 1 24 .nils (.l 1) (.l 1),none,none,[5]⟩,J0 3 4,⟨.len false (.l 3),none,none,[4]⟩,⟨.makeSlice 5 1 1 (.bool false) (.l 4) (.l 4),none,none,[4]⟩,oq (.build [.nils,.nils] [(0,1,.l 2),(1,1,.l 5)]),oq (.box 6 (.l 6)),oc 7 7],sq [ks 18 3 19 0 20 0,.block 2 (.loop (sq [kh 21 20 19,B6 21 2,.block 3 (sq [kae 20 3 18 20 3 1 9 7 0 0 0 8 0 3 3 2,.reg [oa 7,D9 0,ou 1 1,ob 1 2,oa 8,oh 3 1,oh 3 9,U2 30 5 6 0 0,oj 1 3 4,ok 1 8 7],.reg [od 2 1,V8 22 1 0,L9 23 1,ox 24 0],.block 4 (.loop (sq [kh 25 24 23,B6 25 4,.block 5 (sq [.reg [oa 24,U9 6 22 24,L6 6 1,oax 11 8 0 0 0 0,oc 10 0,ok 6 3 2],.reg [oh 3 1,oh 3 9,oa 10,odd 50 0 1 2 0 0 0 0 0 0 0 0,os 3,oy 4 0,oy 4 1,oak 12 9 0 0 0,ok 3 7 5,oc 13 6],.reg [ocf 26 13],.cond (.v 26) (.G5 8 none 24010 0 (.reg [obr 7 10 11,odv 0 10 11,oco 0 1 10 11,oeg 1 2 10 11,obr 8 10 11,J0 7 10,odo 5 10,ocv 0 6 10,P6 1 7 10,J0 8 10,obm 1 8 9 10,P6 1 10 10,od 0 11,ob 1 12,od 1 11,ob 1 14,E0 15,oa 4,oh 3 12,ofj 46 0 17 18,oq (.build [.str ⟨#[]⟩,.int .i64 0,.int .i64 0] [(0,1,.l 13),(1,1,.l 16),(2,1,.l 19)]),oq (.mkarr 10 3 [.agg [.str ⟨#[]⟩,.int .i64 0,.int .i64 0]] [(0,.l 20)]),J3 11 3 32 1 11 21,oj 1 3 4,ok 1 23 22])) kc]),kd 24 1 24 0]))]),kd 20 1 20 0]))],kg 7 2 0,.G7 [(4,true),(5,true)] (.G5 2 none 1 0 ko)]⟩
theorem c78:C4 78 X78:=C6
theorem c51:C4 51 X51:=C6
theorem c56:C4 56 X56:=C6
abbrev AG(t:j9)(a:Nat×Nat):PV:=.agg [St (prt t a.1),CL (cls t a.1),IN a.2]
abbrev FG(t:j9)(l:List (Nat×Nat)):PV:=if l=[]then .nils else .uslc (l.map (AG t))
abbrev SG(t:j9)(l:List (Nat×Nat)):PV:=.slc (l.map (AG t))
abbrev AV(t:j9)(a:Nat×Nat):PV:=.agg [St (prt t a.1),IN (cls t a.1).length,IN a.2]
abbrev FV(t:j9)(l:List (Nat×Nat)):PV:=if l=[]then .nils else .uslc (l.map (AV t))
abbrev SV(t:j9)(l:List (Nat×Nat)):PV:=.slc (l.map (AV t))
@[simp] theorem d1m(t:j9):FG t []=.nils:=rfl
@[simp] theorem d2D(t:j9)(a:Nat×Nat)(l:List (Nat×Nat)):FG t (a::l)=.uslc (AG t a::l.map (AG t)):=rfl
@[simp] theorem d1Q(t:j9):FV t []=.nils:=rfl
@[simp] theorem d2P(t:j9)(a:Nat×Nat)(l:List (Nat×Nat)):FV t (a::l)=.uslc (AV t a::l.map (AV t)):=rfl
@[simp] theorem d3n(t:j9)(l:List (Nat×Nat)):List.map (B4∘AG t) l=l.map (AG t):=K3 fun _ _=>rfl
@[simp] theorem d1v(t:j9)(l:List (Nat×Nat)):List.map (B4∘AV t) l=l.map (AV t):=K3 fun _ _=>rfl
theorem c0J(t:j9)(l:List (Nat×Nat)):B4 (FG t l)=SG t l:=by
 cases l with
 |nil=>rfl
 |cons a l=>simp[B4,K8]<;>rfl
theorem c8s(t:j9)(l:List (Nat×Nat)):B4 (FV t l)=SV t l:=by
 cases l with
 |nil=>rfl
 |cons a l=>simp[B4,K8]<;>rfl
theorem b7Y(t:j9)(l:List (Nat×Nat)):D5 (FG t l)=true:=by unfold FG;split<;>rfl
theorem c9u(t:j9)(l:List (Nat×Nat)):D5 (FV t l)=true:=by unfold FV;split<;>rfl
structure GV where
 (w0 w1 w2 w3 w4 w5 w6 w7 w8 w9 w10 w11:PV)
theorem c9y(t:j9)(c:s8 t):F0 78 [0] [TP t] (.fptr [.slc ((gL (E6 t) t).map (SG t)),.slc ((N6 t).map B),.slc ((M8 t).map B)]):=by
 have ae:=a0G c;have af:=a2j c;have w:(j4 t).length≤140737488355328:=i9;have y:(j4 t).length≤9223372036854775807:=i9;have I:((j4 t).length:Int)*24≤140737488355328:=i9;have f:=a8A t;refine E4 c78 14 (by simp[X78]) fun Q J ag=>?_;simp[X78];refine m6 (b1a t c) ?_;simp[w,y];refine E3 (fun(x:Nat×PV×PV×PV×Row) vs h=>x.1≤(j4 t).length∧vs=[TP t,.ptr 0 1 0,.lit (.pointer none),.own 1 1 (j4 t).length 3 0 (j4 t).length,.mapv 2 1,x.2.1,x.2.2.1,.uu,.uu,.uu,.uu,.uu,.uu,.uu,.own 1 1 (j4 t).length 3 0 (j4 t).length,IN (j4 t).length,IN x.1,x.2.2.2.1,.uu,.uu,.uu,.uu,.uu,.uu,.uu,.uu,.uu]∧h=[(1,.var (TC t)),(1,.arr 3 0 false (E8 (j4 t))),(1,.mp false (E8 (O5 t x.1)) ((List.range x.1).map IN)),x.2.2.2.2,dd,dd,dd,dd,dd,dd,dd,dd,dd,dd]) (fun x=>(j4 t).length-x.1) (0,.uu,.uu,.uu,dd) ?_ ?_
 . simp[O5]
 . rintro⟨i,v5,v6,v17,R3⟩ vs h ⟨g1,rfl,rfl⟩ Q' K L ah;dsimp only at g1;by_cases hi:i<(j4 t).length
   . have hw:=wk1 i i9;have n:(O5 t i).idxOf? (j4 t)[i]=none:=b1j (a8J c) hi;have M:E8 (O5 t i)++[.agg [IN (j4 t)[i].mode,IN (j4 t)[i].last,UN (j4 t)[i].need]]=E8 (O5 t (i+1)):=(by rw[show O5 t (i+1)=O5 t i++[(j4 t)[i]]by unfold O5;rw[b4O]];simp);have N:List.map IN (List.range i)++[IN i]=List.map IN (List.range (i+1)):=(by rw[a2q];simp);simp[hi,hw,n,M,N];exact K (i+1,_,_,_,_) _ _ i9 ⟨s5,rfl,rfl⟩
   . obtain rfl:i=(j4 t).length:=i9;have O:O5 t (j4 t).length=j4 t:=M4;simp;refine L _ _ _ ?_;simp[y,I,w,O];refine m6 (b9S t c) ?_;simp[f];refine E3 (fun(x:Nat×Nat×Nat×GV×Row×Row×Row×Nat×Nat×Nat) vs h=>x.1≤(j4 t).length∧vs=[TP t,.ptr 0 1 0,.lit (.pointer none),.own 1 1 (j4 t).length 3 0 (j4 t).length,.mapv 2 1,v5,v6,.ptr 7 1 0,x.2.2.2.1.w0,x.2.2.2.1.w1,x.2.2.2.1.w2,x.2.2.2.1.w3,x.2.2.2.1.w4,x.2.2.2.1.w5,.own 1 1 (j4 t).length 3 0 (j4 t).length,IN (j4 t).length,IN (j4 t).length,.bool false,.own 1 1 (j4 t).length 3 0 (j4 t).length,IN (j4 t).length,IN x.1,x.2.2.2.1.w6,x.2.2.2.1.w7,x.2.2.2.1.w8,x.2.2.2.1.w9,x.2.2.2.1.w10,x.2.2.2.1.w11]∧h=[(1,.var (TC t)),(1,.arr 3 0 false (E8 (j4 t))),(1,.mp false (E8 (j4 t)) ((List.range (j4 t).length).map IN)),R3,(1,.arr 1 x.2.1 false ((gU (E6 t) t x.1 0).map (FG t))),(1,.arr 1 x.2.2.1 false ((a0r t x.1).map B)),(1,.arr 1 0 false ((M8 t).map B)),(1,.var [.own 4 1 (j4 t).length 1 0 (j4 t).length,.own 5 1 (j4 t).length 1 0 (j4 t).length,.own 6 1 (j4 t).length 1 0 (j4 t).length]),x.2.2.2.2.1,x.2.2.2.2.2.1,x.2.2.2.2.2.2.1,(x.2.2.2.2.2.2.2.1,.dead),(x.2.2.2.2.2.2.2.2.1,.dead),(x.2.2.2.2.2.2.2.2.2,.dead)]) (fun x=>(j4 t).length-x.1) (0,0,0,⟨.uu,.uu,.uu,.uu,.uu,.uu,.uu,.uu,.uu,.uu,.uu,.uu⟩,dd,dd,dd,0,0,0) ?_ ?_
     . simp[b3E,b3P]
     . rintro⟨k,ver,ai,⟨v8,v9,v10,v11,v12,v13,v21,v22,v23,v24,z,A⟩,R8,R9,R10,g11,g12,g13⟩ vs h ⟨g2,rfl,rfl⟩ Q2 P R aj;dsimp only at g2;by_cases b:k<(j4 t).length
       . have S:=wk1 k i9;have C:=a2R c (B7 b);have T:=a7m t (j4 t)[k] c.ok C.ok;have U:=b1H t k;have V:((a0r t k).map B).set k (B (C0 t (j4 t)[k]))=(a0r t (k+1)).map B:=(by rw[←b4B b,H9]);simp[b];refine m6 T ?_;simp[b,U,V];refine E3 (fun(x:Nat×Nat×Nat×GV×Row×Row×Row×Nat×Nat×Nat) vs h=>x.1≤t.rules.length∧vs=[TP t,.ptr 0 1 0,.lit (.pointer none),.own 1 1 (j4 t).length 3 0 (j4 t).length,.mapv 2 1,v5,v6,.ptr 7 1 0,IN k,.ptr 8 (R8.1+1) 0,x.2.2.2.1.w2,x.2.2.2.1.w3,x.2.2.2.1.w4,x.2.2.2.1.w5,.own 1 1 (j4 t).length 3 0 (j4 t).length,IN (j4 t).length,IN (j4 t).length,.bool false,.own 1 1 (j4 t).length 3 0 (j4 t).length,IN (j4 t).length,IN k,.bool true,.slc (t.rules.map RP),IN t.rules.length,IN x.1,x.2.2.2.1.w10,x.2.2.2.1.w11]∧h=[(1,.var (TC t)),(1,.arr 3 0 false (E8 (j4 t))),(1,.mp false (E8 (j4 t)) ((List.range (j4 t).length).map IN)),R3,(1,.arr 1 x.2.1 false ((gU (E6 t) t k x.1).map (FG t))),(1,.arr 1 x.2.2.1 false ((a0r t (k+1)).map B)),(1,.arr 1 0 false ((M8 t).map B)),(1,.var [.own 4 1 (j4 t).length 1 0 (j4 t).length,.own 5 1 (j4 t).length 1 0 (j4 t).length,.own 6 1 (j4 t).length 1 0 (j4 t).length]),(R8.1+1,.var [IN (j4 t)[k].mode,IN (j4 t)[k].last,UN (j4 t)[k].need]),x.2.2.2.2.2.1,x.2.2.2.2.2.2.1,(x.2.2.2.2.2.2.2.1,.dead),(x.2.2.2.2.2.2.2.2.1,.dead),(x.2.2.2.2.2.2.2.2.2,.dead)]) (fun x=>t.rules.length-x.1) (0,ver,_,⟨v8,v9,v10,v11,v12,v13,v21,v22,v23,v24,z,A⟩,R8,R9,R10,g11,g12,g13) ⟨D6 _,rfl,rfl⟩ ?_
         . rintro⟨j,ver,ak,⟨v8,v9,v10,v11,v12,v13,v21,v22,v23,v24,z,A⟩,R80,R9,R10,g11,g12,g13⟩ vs h ⟨g3,rfl,rfl⟩ Q3 o W al;dsimp only at g3;by_cases hj:j<t.rules.length
           . have am:=c.l64;have p:=wk1 j i9;have X:=a8H t (j4 t)[k] j c.ok C.ok i9;have D:=a9v (g:=E6 t) (t:=t) k j;have E:(t.rules[j]).print=prt t j:=(by unfold prt;rw[u9,m7 hj];rfl);have F:(t.rules[j]).cells=cls t j:=(by unfold cls;rw[u9,m7 hj];rfl);simp[hj];refine m6 X ?_;cases hs:step t (j4 t)[k] j with
             |none=>
              have d:gU (E6 t) t k (j+1)=gU (E6 t) t k j:=a9k b (by unfold E6;rw[hs];rfl);simp[p];exact o (j+1,_,_,⟨v8,v9,_,_,_,_,v21,v22,v23,v24,_,_⟩,R8,_,_,_,_,_) _ _ i9 ⟨s5,rfl,by rw[d]<;>rfl⟩
             |some nx=>
              have q:=a0g c (B7 b) hs;have r:=a6X q;have hm:=a3e q;have s:=b2Y q;by_cases m:Live t nx
              case neg=>
               have d:gU (E6 t) t k (j+1)=gU (E6 t) t k j:=a9k b (by unfold E6;rw[hs];exact if_neg m);simp[b,p,r,hm,f,s,m];exact o (j+1,_,_,⟨v8,v9,_,_,_,_,v21,v22,v23,v24,_,_⟩,R8,_,_,_,_,_) _ _ i9 ⟨s5,rfl,by rw[d]<;>rfl⟩
              case pos=>
               have Y:E6 t (j4 t)[k] j=some (j,P4 t nx):=(by unfold E6;rw[hs];exact if_pos m);have d:=b0F (g:=E6 t) b j;rw[b0G,Y]at d;have e:=b1p (g:=E6 t) b j;have G:k<(gU (E6 t) t k j).length:=i9;by_cases n:gTo (E6 t) (j4 t)[k] j=[]
               . rw[n]at d e;have u:FG t (gU (E6 t) t k j)[k]=.nils:=(by rw[e];rfl);have v:(List.map (FG t) (gU (E6 t) t k j)).set k (.uslc [.agg [St (prt t j),CL (cls t j),IN (P4 t nx)]])=List.map (FG t) (gU (E6 t) t k (j+1)):=(by rw[d,H9];rfl);simp[b,D,p,r,hm,G,u,v,e,f,s,m,E,F];exact o (j+1,_,_,⟨v8,v9,_,_,_,_,v21,v22,v23,v24,_,_⟩,R8,_,_,_,_,_) _ _ i9 ⟨s5,rfl,rfl⟩
               . obtain⟨a,l,H⟩:=a7P n;rw[H]at d e;have u:FG t (gU (E6 t) t k j)[k]=.uslc (AG t a::l.map (AG t)):=(by rw[e];rfl);have v:(List.map (FG t) (gU (E6 t) t k j)).set k (.uslc (AG t a::(l.map (AG t)++[.agg [St (prt t j),CL (cls t j),IN (P4 t nx)]])))=List.map (FG t) (gU (E6 t) t k (j+1)):=(by rw[d,H9];simp);have hle:=a8j (g:=E6 t) (j4 t)[k] j;rw[H]at hle;have Z:(l.length+1+1)*48≤140737488355328:=(by grind);simp[b,D,p,r,hm,G,u,v,e,Z,f,s,m,E,F];exact o (j+1,_,_,⟨v8,v9,_,_,_,_,v21,v22,v23,v24,_,_⟩,R8,_,_,_,_,_) _ _ i9 ⟨s5,rfl,rfl⟩
           . obtain rfl:j=t.rules.length:=i9;simp;refine W _ _ _ ?_;simp[S];exact P (k+1,_,_,⟨_,_,_,_,_,_,_,_,_,_,_,_⟩,_,_,_,_,_,_) _ _ i9 ⟨s5,rfl,by rw[←b4F]<;>rfl⟩
       . obtain rfl:k=(j4 t).length:=i9;have aa:(∀(x:List (Nat×Nat)),x∈gL (E6 t) t→D5 (FG t x)=true)=True:=eq_true fun x _=>b7Y t x;have ab:List.map (B4∘FG t) (gL (E6 t) t)=(gL (E6 t) t).map (SG t):=K3 fun l _=>c0J t l;have ac:(gL (E6 t) t).length=(j4 t).length:=(by simp[gL]);have ad:(N6 t).length=(j4 t).length:=(by simp[N6]);simp[a7D,a7h];refine R _ _ _ ?_;simp[a7D,a7h,aa,ab,ac,ad,f];refine J _ _ ?_;simp[X78]
open Classical in
theorem c8e(t:j9)(c:s8 t):F0 51 [0] [TP t] (.fptr [.slc ((gL (E6 t) t).map (SG t)),.slc ((N6 t).map B),B (decide (Live t start))]):=by
 have ah:=a0G c;have I:=a2j c;have q:(j4 t).length≤140737488355328:=i9;have r:(j4 t).length≤9223372036854775807:=i9;have J:((j4 t).length:Int)*24≤140737488355328:=i9;have e:=a8A t;have K:(M8 t)[0]'(by rw[e];omega)=decide (Live t start):=by have h1:=a2D c;rw[m7 i9]at h1;simp only[M8,a0b,a0c h1]
 have L:0<(j4 t).length:=I;refine E4 c51 14 (by simp[X51]) fun Q M ai=>?_;simp[X51];refine m6 (b1a t c) ?_;simp[q,r];refine m6 (b9S t c) ?_;simp[q,r,e];refine E3 (fun(x:Nat×PV×PV×PV×Row) vs h=>x.1≤(j4 t).length∧vs=[TP t,.ptr 0 1 0,.lit (.pointer none),.own 1 1 (j4 t).length 3 0 (j4 t).length,.own 2 1 (j4 t).length 1 0 (j4 t).length,.mapv 3 1,x.2.1,x.2.2.1,.uu,.uu,.uu,.uu,.uu,.uu,.uu,.own 1 1 (j4 t).length 3 0 (j4 t).length,IN (j4 t).length,IN x.1,x.2.2.2.1,.uu,.uu,.uu,.uu,.uu,.uu,.uu,.uu,.uu]∧h=[(1,.var (TC t)),(1,.arr 3 0 false (E8 (j4 t))),(1,.arr 1 0 false ((M8 t).map B)),(1,.mp false (E8 (O5 t x.1)) ((List.range x.1).map IN)),x.2.2.2.2,dd,dd,dd,dd,dd,dd,dd,dd,dd]) (fun x=>(j4 t).length-x.1) (0,.uu,.uu,.uu,dd) ?_ ?_
 . simp[O5]
 . rintro⟨i,v5,v6,v17,R3⟩ vs h ⟨g1,rfl,rfl⟩ Q' N O aj;dsimp only at g1;by_cases hi:i<(j4 t).length
   . have hw:=wk1 i i9;have n:(O5 t i).idxOf? (j4 t)[i]=none:=b1j (a8J c) hi;have P:E8 (O5 t i)++[.agg [IN (j4 t)[i].mode,IN (j4 t)[i].last,UN (j4 t)[i].need]]=E8 (O5 t (i+1)):=(by rw[show O5 t (i+1)=O5 t i++[(j4 t)[i]]by unfold O5;rw[b4O]];simp);have R:List.map IN (List.range i)++[IN i]=List.map IN (List.range (i+1)):=(by rw[a2q];simp);simp[hi,hw,n,P,R];exact N (i+1,_,_,_,_) _ _ i9 ⟨s5,rfl,rfl⟩
   . obtain rfl:i=(j4 t).length:=i9;have S:O5 t (j4 t).length=j4 t:=M4;simp;refine O _ _ _ ?_;simp[r,J,q,S,e,L,K];refine E3 (fun(x:Nat×Nat×Nat×GV×Row×Row×Row×Nat×Nat×Nat) vs h=>x.1≤(j4 t).length∧vs=[TP t,.ptr 0 1 0,.lit (.pointer none),.own 1 1 (j4 t).length 3 0 (j4 t).length,.own 2 1 (j4 t).length 1 0 (j4 t).length,.mapv 3 1,v5,v6,.ptr 7 1 0,x.2.2.2.1.w0,x.2.2.2.1.w1,x.2.2.2.1.w2,x.2.2.2.1.w3,x.2.2.2.1.w4,x.2.2.2.1.w5,.own 1 1 (j4 t).length 3 0 (j4 t).length,IN (j4 t).length,IN (j4 t).length,.bool false,.own 1 1 (j4 t).length 3 0 (j4 t).length,IN (j4 t).length,IN x.1,x.2.2.2.1.w6,x.2.2.2.1.w7,x.2.2.2.1.w8,x.2.2.2.1.w9,x.2.2.2.1.w10,x.2.2.2.1.w11]∧h=[(1,.var (TC t)),(1,.arr 3 0 false (E8 (j4 t))),(1,.arr 1 0 false ((M8 t).map B)),(1,.mp false (E8 (j4 t)) ((List.range (j4 t).length).map IN)),R3,(1,.arr 1 x.2.1 false ((gU (E6 t) t x.1 0).map (FG t))),(1,.arr 1 x.2.2.1 false ((a0r t x.1).map B)),(1,.var [.own 5 1 (j4 t).length 1 0 (j4 t).length,.own 6 1 (j4 t).length 1 0 (j4 t).length,B (decide (Live t start))]),x.2.2.2.2.1,x.2.2.2.2.2.1,x.2.2.2.2.2.2.1,(x.2.2.2.2.2.2.2.1,.dead),(x.2.2.2.2.2.2.2.2.1,.dead),(x.2.2.2.2.2.2.2.2.2,.dead)]) (fun x=>(j4 t).length-x.1) (0,0,0,⟨.uu,.uu,.uu,.uu,.uu,.uu,.uu,.uu,.uu,.uu,.uu,.uu⟩,dd,dd,dd,0,0,0) ?_ ?_
     . simp[b3E,b3P]
     . rintro⟨k,ver,ak,⟨v8,v9,v10,v11,v12,v13,v21,v22,v23,v24,z,A⟩,R8,R9,R10,g11,g12,g13⟩ vs h ⟨g2,rfl,rfl⟩ Q2 T U al;dsimp only at g2;by_cases b:k<(j4 t).length
       . have V:=wk1 k i9;have C:=a2R c (B7 b);have W:=a7m t (j4 t)[k] c.ok C.ok;have X:=b1H t k;have Y:((a0r t k).map B).set k (B (C0 t (j4 t)[k]))=(a0r t (k+1)).map B:=(by rw[←b4B b,H9]);simp[b];refine m6 W ?_;simp[b,X,Y];refine E3 (fun(x:Nat×Nat×Nat×GV×Row×Row×Row×Nat×Nat×Nat) vs h=>x.1≤t.rules.length∧vs=[TP t,.ptr 0 1 0,.lit (.pointer none),.own 1 1 (j4 t).length 3 0 (j4 t).length,.own 2 1 (j4 t).length 1 0 (j4 t).length,.mapv 3 1,v5,v6,.ptr 7 1 0,IN k,.ptr 8 (R8.1+1) 0,x.2.2.2.1.w2,x.2.2.2.1.w3,x.2.2.2.1.w4,x.2.2.2.1.w5,.own 1 1 (j4 t).length 3 0 (j4 t).length,IN (j4 t).length,IN (j4 t).length,.bool false,.own 1 1 (j4 t).length 3 0 (j4 t).length,IN (j4 t).length,IN k,.bool true,.slc (t.rules.map RP),IN t.rules.length,IN x.1,x.2.2.2.1.w10,x.2.2.2.1.w11]∧h=[(1,.var (TC t)),(1,.arr 3 0 false (E8 (j4 t))),(1,.arr 1 0 false ((M8 t).map B)),(1,.mp false (E8 (j4 t)) ((List.range (j4 t).length).map IN)),R3,(1,.arr 1 x.2.1 false ((gU (E6 t) t k x.1).map (FG t))),(1,.arr 1 x.2.2.1 false ((a0r t (k+1)).map B)),(1,.var [.own 5 1 (j4 t).length 1 0 (j4 t).length,.own 6 1 (j4 t).length 1 0 (j4 t).length,B (decide (Live t start))]),(R8.1+1,.var [IN (j4 t)[k].mode,IN (j4 t)[k].last,UN (j4 t)[k].need]),x.2.2.2.2.2.1,x.2.2.2.2.2.2.1,(x.2.2.2.2.2.2.2.1,.dead),(x.2.2.2.2.2.2.2.2.1,.dead),(x.2.2.2.2.2.2.2.2.2,.dead)]) (fun x=>t.rules.length-x.1) (0,ver,_,⟨v8,v9,v10,v11,v12,v13,v21,v22,v23,v24,z,A⟩,R8,R9,R10,g11,g12,g13) ⟨D6 _,rfl,rfl⟩ ?_
         . rintro⟨j,ver,am,⟨v8,v9,v10,v11,v12,v13,v21,v22,v23,v24,z,A⟩,R80,R9,R10,g11,g12,g13⟩ vs h ⟨g3,rfl,rfl⟩ Q3 o Z an;dsimp only at g3;by_cases hj:j<t.rules.length
           . have ao:=c.l64;have p:=wk1 j i9;have aa:=a8H t (j4 t)[k] j c.ok C.ok i9;have D:=a9v (g:=E6 t) (t:=t) k j;have E:(t.rules[j]).print=prt t j:=(by unfold prt;rw[u9,m7 hj];rfl);have F:(t.rules[j]).cells=cls t j:=(by unfold cls;rw[u9,m7 hj];rfl);simp[hj];refine m6 aa ?_;cases hs:step t (j4 t)[k] j with
             |none=>
              have d:gU (E6 t) t k (j+1)=gU (E6 t) t k j:=a9k b (by unfold E6;rw[hs];rfl);simp[p];exact o (j+1,_,_,⟨v8,v9,_,_,_,_,v21,v22,v23,v24,_,_⟩,R8,_,_,_,_,_) _ _ i9 ⟨s5,rfl,by rw[d]<;>rfl⟩
             |some nx=>
              have s:=a0g c (B7 b) hs;have u:=a6X s;have hm:=a3e s;have v:=b2Y s;by_cases m:Live t nx
              case neg=>
               have d:gU (E6 t) t k (j+1)=gU (E6 t) t k j:=a9k b (by unfold E6;rw[hs];exact if_neg m);simp[b,p,u,hm,e,v,m];exact o (j+1,_,_,⟨v8,v9,_,_,_,_,v21,v22,v23,v24,_,_⟩,R8,_,_,_,_,_) _ _ i9 ⟨s5,rfl,by rw[d]<;>rfl⟩
              case pos=>
               have ab:E6 t (j4 t)[k] j=some (j,P4 t nx):=(by unfold E6;rw[hs];exact if_pos m);have d:=b0F (g:=E6 t) b j;rw[b0G,ab]at d;have f:=b1p (g:=E6 t) b j;have G:k<(gU (E6 t) t k j).length:=i9;by_cases n:gTo (E6 t) (j4 t)[k] j=[]
               . rw[n]at d f;have w:FG t (gU (E6 t) t k j)[k]=.nils:=(by rw[f];rfl);have y:(List.map (FG t) (gU (E6 t) t k j)).set k (.uslc [.agg [St (prt t j),CL (cls t j),IN (P4 t nx)]])=List.map (FG t) (gU (E6 t) t k (j+1)):=(by rw[d,H9];rfl);simp[b,D,p,u,hm,G,w,y,f,e,v,m,E,F];exact o (j+1,_,_,⟨v8,v9,_,_,_,_,v21,v22,v23,v24,_,_⟩,R8,_,_,_,_,_) _ _ i9 ⟨s5,rfl,rfl⟩
               . obtain⟨a,l,H⟩:=a7P n;rw[H]at d f;have w:FG t (gU (E6 t) t k j)[k]=.uslc (AG t a::l.map (AG t)):=(by rw[f];rfl);have y:(List.map (FG t) (gU (E6 t) t k j)).set k (.uslc (AG t a::(l.map (AG t)++[.agg [St (prt t j),CL (cls t j),IN (P4 t nx)]])))=List.map (FG t) (gU (E6 t) t k (j+1)):=(by rw[d,H9];simp);have hle:=a8j (g:=E6 t) (j4 t)[k] j;rw[H]at hle;have ac:(l.length+1+1)*48≤140737488355328:=(by grind);simp[b,D,p,u,hm,G,w,y,f,ac,e,v,m,E,F];exact o (j+1,_,_,⟨v8,v9,_,_,_,_,v21,v22,v23,v24,_,_⟩,R8,_,_,_,_,_) _ _ i9 ⟨s5,rfl,rfl⟩
           . obtain rfl:j=t.rules.length:=i9;simp;refine Z _ _ _ ?_;simp[V];exact T (k+1,_,_,⟨_,_,_,_,_,_,_,_,_,_,_,_⟩,_,_,_,_,_,_) _ _ i9 ⟨s5,rfl,by rw[←b4F]<;>rfl⟩
       . obtain rfl:k=(j4 t).length:=i9;have ad:(∀(x:List (Nat×Nat)),x∈gL (E6 t) t→D5 (FG t x)=true)=True:=eq_true fun x _=>b7Y t x;have ae:List.map (B4∘FG t) (gL (E6 t) t)=(gL (E6 t) t).map (SG t):=K3 fun l _=>c0J t l;have af:(gL (E6 t) t).length=(j4 t).length:=(by simp[gL]);have ag:(N6 t).length=(j4 t).length:=(by simp[N6]);simp[a7D,a7h];refine U _ _ _ ?_;simp[a7D,a7h,ad,ae,af,ag,e];refine M _ _ ?_;simp[X51]
theorem b9g(t:j9)(c:s8 t):F0 56 [0] [TP t] (.fptr [.slc ((gL (L1 t) t).map (SV t)),.slc ((N6 t).map B)]):=by
 have ad:=a0G c;have ae:=a2j c;have s:(j4 t).length≤140737488355328:=i9;have u:(j4 t).length≤9223372036854775807:=i9;have H:((j4 t).length:Int)*24≤140737488355328:=i9;have m:=a8A t;refine E4 c56 13 (by simp[X56]) fun Q I af=>?_;simp[X56];refine m6 (b1a t c) ?_;simp[s,u];refine E3 (fun(x:Nat×PV×PV×PV×Row) vs h=>x.1≤(j4 t).length∧vs=[TP t,.ptr 0 1 0,.lit (.pointer none),.own 1 1 (j4 t).length 3 0 (j4 t).length,.mapv 2 1,x.2.1,x.2.2.1,.uu,.uu,.uu,.uu,.uu,.uu,.uu,.own 1 1 (j4 t).length 3 0 (j4 t).length,IN (j4 t).length,IN x.1,x.2.2.2.1,.uu,.uu,.uu,.uu,.uu,.uu,.uu,.uu,.uu]∧h=[(1,.var (TC t)),(1,.arr 3 0 false (E8 (j4 t))),(1,.mp false (E8 (O5 t x.1)) ((List.range x.1).map IN)),x.2.2.2.2,dd,dd,dd,dd,dd,dd,dd,dd,dd]) (fun x=>(j4 t).length-x.1) (0,.uu,.uu,.uu,dd) ?_ ?_
 . simp[O5]
 . rintro⟨i,v5,v6,v17,R3⟩ vs h ⟨g1,rfl,rfl⟩ Q' J K ag;dsimp only at g1;by_cases hi:i<(j4 t).length
   . have hw:=wk1 i i9;have f:(O5 t i).idxOf? (j4 t)[i]=none:=b1j (a8J c) hi;have L:E8 (O5 t i)++[.agg [IN (j4 t)[i].mode,IN (j4 t)[i].last,UN (j4 t)[i].need]]=E8 (O5 t (i+1)):=(by rw[show O5 t (i+1)=O5 t i++[(j4 t)[i]]by unfold O5;rw[b4O]];simp);have M:List.map IN (List.range i)++[IN i]=List.map IN (List.range (i+1)):=(by rw[a2q];simp);simp[hi,hw,f,L,M];exact J (i+1,_,_,_,_) _ _ i9 ⟨s5,rfl,rfl⟩
   . obtain rfl:i=(j4 t).length:=i9;have N:O5 t (j4 t).length=j4 t:=M4;simp;refine K _ _ _ ?_;simp[u,H,s,N];refine E3 (fun(x:Nat×Nat×Nat×GV×Row×Row×Row×Nat×Nat×Nat) vs h=>x.1≤(j4 t).length∧vs=[TP t,.ptr 0 1 0,.lit (.pointer none),.own 1 1 (j4 t).length 3 0 (j4 t).length,.mapv 2 1,v5,v6,.ptr 6 1 0,x.2.2.2.1.w0,x.2.2.2.1.w1,x.2.2.2.1.w2,x.2.2.2.1.w3,x.2.2.2.1.w4,x.2.2.2.1.w5,.own 1 1 (j4 t).length 3 0 (j4 t).length,IN (j4 t).length,IN (j4 t).length,.bool false,.own 1 1 (j4 t).length 3 0 (j4 t).length,IN (j4 t).length,IN x.1,x.2.2.2.1.w6,x.2.2.2.1.w7,x.2.2.2.1.w8,x.2.2.2.1.w9,x.2.2.2.1.w10,x.2.2.2.1.w11]∧h=[(1,.var (TC t)),(1,.arr 3 0 false (E8 (j4 t))),(1,.mp false (E8 (j4 t)) ((List.range (j4 t).length).map IN)),R3,(1,.arr 1 x.2.1 false ((gU (L1 t) t x.1 0).map (FV t))),(1,.arr 1 x.2.2.1 false ((a0r t x.1).map B)),(1,.var [.own 4 1 (j4 t).length 1 0 (j4 t).length,.own 5 1 (j4 t).length 1 0 (j4 t).length]),x.2.2.2.2.1,x.2.2.2.2.2.1,x.2.2.2.2.2.2.1,(x.2.2.2.2.2.2.2.1,.dead),(x.2.2.2.2.2.2.2.2.1,.dead),(x.2.2.2.2.2.2.2.2.2,.dead)]) (fun x=>(j4 t).length-x.1) (0,0,0,⟨.uu,.uu,.uu,.uu,.uu,.uu,.uu,.uu,.uu,.uu,.uu,.uu⟩,dd,dd,dd,0,0,0) ?_ ?_
     . simp[b3E,b3P]
     . rintro⟨k,ver,ah,⟨v8,v9,v10,v11,v12,v13,v21,v22,v23,v24,v,w⟩,R8,R9,R10,g11,g12,g13⟩ vs h ⟨g2,rfl,rfl⟩ Q2 O P ai;dsimp only at g2;by_cases b:k<(j4 t).length
       . have R:=wk1 k i9;have y:=a2R c (B7 b);have S:=a7m t (j4 t)[k] c.ok y.ok;have T:=b1H t k;have U:((a0r t k).map B).set k (B (C0 t (j4 t)[k]))=(a0r t (k+1)).map B:=(by rw[←b4B b,H9]);simp[b];refine m6 S ?_;simp[b,T,U];refine E3 (fun(x:Nat×Nat×Nat×GV×Row×Row×Row×Nat×Nat×Nat) vs h=>x.1≤t.rules.length∧vs=[TP t,.ptr 0 1 0,.lit (.pointer none),.own 1 1 (j4 t).length 3 0 (j4 t).length,.mapv 2 1,v5,v6,.ptr 6 1 0,IN k,.ptr 7 (R8.1+1) 0,x.2.2.2.1.w2,x.2.2.2.1.w3,x.2.2.2.1.w4,x.2.2.2.1.w5,.own 1 1 (j4 t).length 3 0 (j4 t).length,IN (j4 t).length,IN (j4 t).length,.bool false,.own 1 1 (j4 t).length 3 0 (j4 t).length,IN (j4 t).length,IN k,.bool true,.slc (t.rules.map RP),IN t.rules.length,IN x.1,x.2.2.2.1.w10,x.2.2.2.1.w11]∧h=[(1,.var (TC t)),(1,.arr 3 0 false (E8 (j4 t))),(1,.mp false (E8 (j4 t)) ((List.range (j4 t).length).map IN)),R3,(1,.arr 1 x.2.1 false ((gU (L1 t) t k x.1).map (FV t))),(1,.arr 1 x.2.2.1 false ((a0r t (k+1)).map B)),(1,.var [.own 4 1 (j4 t).length 1 0 (j4 t).length,.own 5 1 (j4 t).length 1 0 (j4 t).length]),(R8.1+1,.var [IN (j4 t)[k].mode,IN (j4 t)[k].last,UN (j4 t)[k].need]),x.2.2.2.2.2.1,x.2.2.2.2.2.2.1,(x.2.2.2.2.2.2.2.1,.dead),(x.2.2.2.2.2.2.2.2.1,.dead),(x.2.2.2.2.2.2.2.2.2,.dead)]) (fun x=>t.rules.length-x.1) (0,ver,_,⟨v8,v9,v10,v11,v12,v13,v21,v22,v23,v24,v,w⟩,R8,R9,R10,g11,g12,g13) ⟨D6 _,rfl,rfl⟩ ?_
         . rintro⟨j,ver,aj,⟨v8,v9,v10,v11,v12,v13,v21,v22,v23,v24,v,w⟩,R80,R9,R10,g11,g12,g13⟩ vs h ⟨g3,rfl,rfl⟩ Q3 n V ak;dsimp only at g3;by_cases hj:j<t.rules.length
           . have al:=c.l64;have o:=wk1 j i9;have W:=a8H t (j4 t)[k] j c.ok y.ok i9;have z:=a9v (g:=L1 t) (t:=t) k j;have A:(t.rules[j]).print=prt t j:=(by unfold prt;rw[u9,m7 hj];rfl);have C:(t.rules[j]).cells=cls t j:=(by unfold cls;rw[u9,m7 hj];rfl);simp[hj];refine m6 W ?_;cases hs:step t (j4 t)[k] j with
             |none=>
              have d:gU (L1 t) t k (j+1)=gU (L1 t) t k j:=a9k b (by unfold L1;rw[hs];rfl);simp[o];exact n (j+1,_,_,⟨v8,v9,_,_,_,_,v21,v22,v23,v24,_,_⟩,R8,_,_,_,_,_) _ _ i9 ⟨s5,rfl,by rw[d]<;>rfl⟩
             |some nx=>
              have p:=a0g c (B7 b) hs;have D:=a6X p;have hm:=a3e p;have E:=b2Y p;have X:L1 t (j4 t)[k] j=some (j,P4 t nx):=(by unfold L1;rw[hs];rfl);have d:=b0F (g:=L1 t) b j;rw[b0G,X]at d;have e:=b1p (g:=L1 t) b j;have F:k<(gU (L1 t) t k j).length:=i9;by_cases f:gTo (L1 t) (j4 t)[k] j=[]
              . rw[f]at d e;have q:FV t (gU (L1 t) t k j)[k]=.nils:=(by rw[e];rfl);have r:(List.map (FV t) (gU (L1 t) t k j)).set k (.uslc [.agg [St (prt t j),IN (cls t j).length,IN (P4 t nx)]])=List.map (FV t) (gU (L1 t) t k (j+1)):=(by rw[d,H9];rfl);simp[b,z,o,D,hm,F,q,r,e,m,E,A,C];exact n (j+1,_,_,⟨v8,v9,_,_,_,_,v21,v22,v23,v24,_,_⟩,R8,_,_,_,_,_) _ _ i9 ⟨s5,rfl,rfl⟩
              . obtain⟨a,l,G⟩:=a7P f;rw[G]at d e;have q:FV t (gU (L1 t) t k j)[k]=.uslc (AV t a::l.map (AV t)):=(by rw[e];rfl);have r:(List.map (FV t) (gU (L1 t) t k j)).set k (.uslc (AV t a::(l.map (AV t)++[.agg [St (prt t j),IN (cls t j).length,IN (P4 t nx)]])))=List.map (FV t) (gU (L1 t) t k (j+1)):=(by rw[d,H9];simp);have hle:=a8j (g:=L1 t) (j4 t)[k] j;rw[G]at hle;have Y:(l.length+1+1)*32≤140737488355328:=(by grind);simp[b,z,o,D,hm,F,q,r,e,Y,m,E,A,C];exact n (j+1,_,_,⟨v8,v9,_,_,_,_,v21,v22,v23,v24,_,_⟩,R8,_,_,_,_,_) _ _ i9 ⟨s5,rfl,rfl⟩
           . obtain rfl:j=t.rules.length:=i9;simp;refine V _ _ _ ?_;simp[R];exact O (k+1,_,_,⟨_,_,_,_,_,_,_,_,_,_,_,_⟩,_,_,_,_,_,_) _ _ i9 ⟨s5,rfl,by rw[←b4F]<;>rfl⟩
       . obtain rfl:k=(j4 t).length:=i9;have Z:(∀(x:List (Nat×Nat)),x∈gL (L1 t) t→D5 (FV t x)=true)=True:=eq_true fun x _=>c9u t x;have aa:List.map (B4∘FV t) (gL (L1 t) t)=(gL (L1 t) t).map (SV t):=K3 fun l _=>c8s t l;have ab:(gL (L1 t) t).length=(j4 t).length:=(by simp[gL]);have ac:(N6 t).length=(j4 t).length:=(by simp[N6]);simp[a7D,a7h];refine P _ _ _ ?_;simp[a7D,a7h,Z,aa,ab,ac,m];refine I _ _ ?_;simp[X56]
def a7t:u7:=
 ⟨30,[0,1,4,5,26],0,[(2,none)],sq [kk 2 0,kk 3 0,.block 0 (.loopS [0,1,3] 0 (sq [sq [.reg [oa 3,oa 0,E0 1,obu 0 2,os 3,og 3 4,og 1 4,obn 6 4,⟨.bin .lss false (.l 5) (.l 7),none,some (.l 4,true),[]⟩,ol 4 8,os 9,og 0 10,og 3 10,oas 1 11 12 10,oe 1 13 10,og 1 10,og 3 10,oas 1 15 16 10,oe 1 17 10,oat 14 18 10,P3 4 10 19],B6 4 0],.block 1 (ki 3 0 1 3 1)])),kg 3 2 0,ko]⟩
def X83:u7:=
 ⟨38,[0,2,3,5,6,10,11,12,13,34],1,[(1,none)],sq [kk 1 0,.reg [odk 2],sq [.reg [oa 0,D9 0,ou 0 1,V8 5 1 2,L9 6 3,ox 7 0],.block 0 (.loopS [0,2,5,6,7] 1 (sq [kh 8 7 6,B6 8 0,.block 1 (sq [.reg [U9 3 5 7,L6 3 0,ocs 3 0 0 0,ok 3 2 1],.reg [od 2 3,ob 1 0,oen 1 0,oew 2,oc 4 3],.reg [oa 4,oa 0,D9 1,ou 1 2,ob 1 3,oq (.bin .geq false (.l 0) (.l 4)),os 5,og 2 6,obf 7 0 6,ofu 8 6,L4 4 9,L4 2 9,oda 10 11 9,odp 9 12 6,P3 9 6 13],.cond (.v 9) (kg 4 2 0) kc]),kd 7 1 7 0]))],kg 2 1 0,ko]⟩
def X84:u7:=
 ⟨33,[0,1,4,5,7,11,12,13,14,21],3,[(2,none)],sq [kad 2,kad 3,.G5 3 none 2 3 (sq [sq [.reg [oa 0,D9 0,ou 0 1,V8 5 1 2,L9 6 3,ox 7 0],.block 0 (.loopS [1,3,5,6,7] 3 (sq [kh 8 7 6,B6 8 0,.block 1 (sq [.reg [U9 3 5 7,L6 3 0,ocs 4 0 0 0,ok 3 2 1],.reg [od 2 4,ob 1 0,oen 1 0,oa 1,ow 9 (.bin .eql false (.l 2) (.l 3))],.cond (.v 9) (.reg [J0 3 1,od 0 4,L6 2 1,od 2 4,ob 1 3,oep 0 4 1,oq (.build [.int .i64 0,.int .i64 0,.str ⟨#[]⟩] [(0,2,.l 2),(2,1,.l 5)]),oq (.mkarr 1 3 [.agg [.int .i64 0,.int .i64 0,.str ⟨#[]⟩]] [(0,.l 6)]),J3 2 3 32 1 0 7,oc 3 8]) kc]),kd 7 1 7 0]))],kg 3 2 0,ko])]⟩
def a7x:u7:=
 ⟨9,[0,2],19,[(1,none)],sq [kad 1,.reg [oa 0,oa 0,E0 1,oa 0,E0 3,oq (.slice false 3 (.l 0) none (some (.l 2)) (some (.l 4))),oc 1 5],ko]⟩
def a2u:u7:=
 ⟨23,[0,1,2,3,7],8,[],sq [.reg [F5 3 5 0],.reg [E7 1 1,oh 2 3,oq (.lookup 14 false (.bool false) (.l 0) (.l 1)),Z3 4 2],.cond (.v 4) (sq [.reg [E7 1 1,oh 2 3,ofb 14 0 1],.G5 3 (some 0) 16002 0 (.reg [⟨.loadV false 1 (.v 2),none,none,[6,7]⟩,ofq 0 3 6 7,oeg 1 1 6 7,oef 1 2 6,obl 0 3 6,P6 1 4 6,obm 1 3 5 6,P6 1 6 6,od 1 3,ob 1 8,ocx 6 1 0 0 9,J3 7 1 8 1 7 10,oj 1 0 2,ok 1 12 11])]) kc]⟩
def X79:u7:=
 ⟨88,[0,1,4,5,6,7,8,9,10,12,14,15,28,34,35,36,41,42,43,44,53,54,55,56,74],5,[(2,none),(3,none)],sq [.reg [obj 2,ox 3 0],.reg [oa 1,E0 0,oae 1 1,oq (.makeSlice 0 1 24 .nils (.l 2) (.l 2)),ow 4 (.alloc 1 [.nils]),ok 1 4 3],.reg [ofm 2,ow 5 (.alloc 3 [.lit (.map none)]),ok 1 1 0],kao 109 5 4 6 0,sq [.reg [oa 0,D9 0,ou 2 1,ob 1 2,ock 1 3 0,ob 1 4,Z3 12 5],.cond (.v 12) (sq [.reg [E7 1 4,oc 2 0,odk 3],ko]) kc],.reg [oa 6,oq (.build [.int .i64 0,.int .i64 0] []),oq (.cally (.l 0) [.l 1])],kk 7 0,sq [.reg [E7 1 4,L9 13 0,ox 14 0],.block 0 (.loop (sq [kh 15 14 13,B6 15 0,.block 1 (sq [kg 14 8 0,.G5 8 none 16002 0 (.G5 8 none 16003 0 (.reg [E7 1 4,oa 8,oj 1 0 1,V8 16 1 2,L9 17 3,ox 18 0])),.block 2 (.loop (sq [kh 19 18 17,B6 19 2,.block 3 (sq [kap 1 16 18 1 0 9 1,.reg [oa 0,D9 0,ou 0 1,ob 1 2,oa 9,oj 1 3 4,V8 20 1 5,L9 21 6,ox 22 0],.block 4 (.loop (sq [kh 23 22 21,B6 23 4,.block 5 (sq [.reg [U9 3 20 22,L6 3 0,ofp 10 4 0,ok 3 2 1],.reg [od 1 10,ob 1 0,oa 1,oa 8,oek 1 2 3,U2 110 1 4 0 0,oc 11 5],.reg [oa 7,oa 8,oa 11,X2 1 2,oq (.minmax true [.l 0,.l 3]),oc 7 4],.reg [oa 11,od 1 10,ob 1 1,E0 2,ow 24 (.bin .eql false (.l 0) (.l 3))],.cond (.v 24) (.reg [oa 6,oa 8,oa 11,X2 1 2,od 2 10,ob 1 4,oft 0 0 0 1 3 1 1 5,oq (.cally (.l 0) [.l 6])]) kc]),kd 22 1 22 0]))]),kd 18 1 18 0]))]),kd 14 1 14 0]))],.reg [E7 1 4,oa 7,oc 2 0,oc 3 1],ko]⟩
def X41:u7:=
 ⟨88,[0,1,2,4,5,6,7,8,9,11,12,14,33,39,40,41,42,63,71,73,79],7,[(3,none),(4,none)],sq [.reg [F5 2 0 0,odl 3,ox 4 0],.reg [oh 3 2,T9 78 0 0 0,oa 1,ofm 1,oq (.build [.lit (.pointer none),.nils,.lit (.map none)] [(0,1,.l 1),(1,1,.l 2),(2,1,.l 3)]),oq (.box 2 (.l 4)),ow 5 (.alloc 3 [.lit (.pointer none)]),ok 1 6 5],.reg [E7 1 5,D9 0,ou 0 1,ob 1 2,oa 1,oct 79 3 4 4 1 0 0,os 5,oy 6 0,oy 6 1,oc 6 7,oc 7 8],.G7 [(4,true)] (.G5 6 none 0 0 (sq [sq [.reg [oa 1,E0 0,oc 8 1],.block 0 (.loop (sq [sq [.reg [oa 8,odu 12 0 0],B6 12 0],.block 1 (sq [.reg [oa 6,oa 8,oj 1 0 1,V8 13 1 2,L9 14 3,ox 15 0],.block 2 (.loop (sq [kh 16 15 14,B6 16 2,.block 3 (sq [kap 1 13 15 1 0 9 1,.reg [oa 8,oa 9,oft 0 0 0 1 0 1 1 1,ody 10 5 0 0,ok 2 3 2],sq [.reg [oa 8,oa 1,E0 1,ocj 0 2,os 3,ocg 1 5 4,obk 5 4,obc 0 6 4,oe 1 7 4,obk 8 4,obc 1 9 4,oe 1 10 4,og 9 4,oas 1 11 12 4,oe 1 13 4,P3 17 4 14],.cond (.v 17) (.reg [E7 1 5,D9 0,ou 2 1,ob 1 2,oh 2 10,ofb 14 3 4]) kc],.reg [E7 1 5,oh 2 10,odx 18 80 0 1],.block 4 (.rfor (.v 18) [none,some 19] (.reg [ody 11 6 0 0,oq (.store 2 (.l 0) (.v 19))]) (.block 5 (sq [.reg [E7 1 5,D9 0,ou 2 1,ob 1 2,oh 2 11,ofc 20 14 3 4],.cond (.v 20) (sq [.reg [E7 1 5,D9 0,ou 2 1,ob 1 2,oh 2 10,ofb 14 3 4],kl 4]) kc])))]),kd 15 1 15 0]))]),.reg [oa 8,obh 0 1,oc 8 1]]))],.reg [E7 1 5,oa 7,oc 3 0,oc 4 1],.G7 [(1,true)] (.G5 3 none 1 0 ko)]))]⟩
def a1P:u7:=
 ⟨21,[0,1,2,3,4,7,12],18,[],sq [.reg [F5 4 13 0],sq [.reg [E7 1 1,oh 3 4,ofc 5 62 0 1],.cond (.v 5) ko kc],.reg [E7 1 1,oh 3 4,ofb 62 0 1],.reg [od 2 4,ob 1 0,ow 6 (.bin .eql false (.l 1) (.c (.str ⟨#[]⟩)))],.cond (.v 6) (.reg [E7 1 2,oh 3 4,oq (.mkarr 14 3 [.agg [.int .i64 0,.int .i64 0,.str ⟨#[]⟩]] [(0,.l 1)]),J3 15 3 32 1 0 2,M1 1 2 3]) (.reg [E7 1 3,oh 3 4,oq (.mkarr 16 3 [.agg [.int .i64 0,.int .i64 0,.str ⟨#[]⟩]] [(0,.l 1)]),J3 17 3 32 1 0 2,M1 1 3 3])]⟩
def X80:u7:=
 ⟨6,[0,1,2,3,4],12,[(4,none)],sq [.reg [F5 2 10 0,F5 3 11 1,ow 4 (.mv (.c (.lit .nilFunc)))],kao 111 2 3 4 0,ko]⟩
def a3A:u7:=
 ⟨53,[0,1,2,5,16,17,18,19,51],13,[],sq [.reg [E7 1 1,D9 0,ou 0 1,ob 1 2,D9 3,ou 0 4,ob 1 5,od 1 2,ob 1 7,oj 1 6 8,V8 4 1 9,L9 5 10,ox 6 0],.block 0 (.loop (sq [kh 7 6 5,B6 7 0,.block 1 (sq [.reg [U9 3 4 6,L6 3 0,ofp 3 12 0,ok 3 2 1],.reg [od 1 3,ob 1 0,E7 1 1,D9 2,ou 1 3,ob 1 4,od 0 2,ob 1 6,oek 1 5 7,U2 110 1 8 0 0,od 1 3,ob 1 10,E0 11,ocj 9 12,os 13,og 0 14,om 0 3 14,oe 1 16 14,om 0 2 14,oe 1 18 14,om 1 3 14,oe 1 20 14,obn 21 14,⟨.bin .add false (.l 19) (.l 22),none,some (.l 14,true),[]⟩,om 2 3 14,oe 1 24 14,⟨.build [.int .i64 0,.int .i64 0] [(0,1,.l 23),(1,1,.l 25)],none,some (.l 14,true),[]⟩,⟨.cally (.l 15) [.l 17,.l 26],none,some (.l 14,true),[]⟩,odg 27 14,P3 8 14 28],.cond (.v 8) ko kc]),kd 6 1 6 0]))]⟩
theorem c110:C4 110 a7t:=C6
theorem c83:C4 83 X83:=C6
theorem c84:C4 84 X84:=C6
theorem c113:O1 Tryz.prog 113 19=some {a7x with body:=strip a7x.body}:=by kernel_rfl
theorem b4J:O1 Tryz.prog 109 5=some {a2u with body:=strip a2u.body}:=by kernel_rfl
theorem c79:C4 79 X79:=C6
theorem c41:C4 41 X41:=C6
theorem b3Y:O1 Tryz.prog 112 13=some {a1P with body:=strip a1P.body}:=by kernel_rfl
theorem c80:O1 Tryz.prog 80 10=some {X80 with body:=strip X80.body}:=by kernel_rfl
theorem b2U:O1 Tryz.prog 111 12=some {a3A with body:=I1 a3A.body}:=by kernel_rfl
def V6:List Nat→List Nat→Nat
 |a::r,b::q=>if a=b then V6 r q+1 else 0
 |_,_=>0
theorem b4b:∀(a b:List Nat),V6 a b≤a.length∧V6 a b≤b.length
 | [],b=>by simp[V6]
 |a::r,[]=>by simp[V6]
 |a::r,b::q=>by
  have:=b4b r q;unfold V6;split
  . simp;omega
  . simp
theorem a9s:∀(a b:List Nat),V6 a b=a.length↔a<+:b
 | [],b=>by simp[V6]
 |a::r,[]=>by simp[V6]
 |a::r,b::q=>by
  have:=a9s r q;unfold V6;by_cases h:a=b
  . grind
  . grind
theorem c1S(a b:List Nat)(k:Nat):k≤V6 a b→(k<a.length→k<b.length→a[k]?=b[k]?→k<V6 a b)∧(k<V6 a b→k<a.length∧k<b.length∧a[k]?=b[k]?):=by
 induction a generalizing b k with
 |nil=>intro h;simp[V6]at h⊢
 |cons x a c=>
  cases b with
  |nil=>intro h;simp[V6]at h⊢
  |cons y b=>
   intro h;unfold V6 at h⊢;by_cases d:x=y
   . grind
   . grind
theorem b1h(a b:List Nat)(l:a.length≤1100000000):F0 110 [0] [CL a,CL b] (IN (V6 a b)):=by
 refine E4 c110 0 (by simp[a7t]) fun Q e m=>?_;simp[a7t];refine I6 (fun(k:Nat) vs h=>k≤V6 a b∧vs=[CL a,CL b,.uu,IN k,.uu]∧h=[]) (fun k=>V6 a b-k) 0 ?_ ?_
 . simp
 . rintro k vs h ⟨g1,rfl,rfl⟩ Q' j f n;obtain⟨s1,s2⟩:=c1S a b k g1;have hle:=b4b a b;have hw:=wk1 k i9;have g:¬k<V6 a b→V6 a b=k:=fun h=>(by omega);by_cases h1:k<a.length
   . by_cases c:k<b.length
     . by_cases i:a[k]=b[k]
       . have o:=s1 h1 c (by grind);simp[h1,c,i,hw];refine j (k+1) _ _ i9 ?_;simp;omega
       . have d:¬k<V6 a b:=fun h=>by
          have:=(s2 h).2.2;rw[m7 h1,m7 c]at this;exact i (a0c this)
         simp[h1,c,i];refine f _ _ _ ?_;simp;refine e _ _ ?_;simp[a7t,g d]
     . have d:¬k<V6 a b:=fun h=>c (s2 h).2.1;simp[h1,c];refine f _ _ _ ?_;simp;refine e _ _ ?_;simp[a7t,g d]
   . have d:¬k<V6 a b:=fun h=>h1 (s2 h).1;simp[h1];refine f _ _ _ ?_;simp;refine e _ _ ?_;simp[a7t,g d]
theorem c1H{t:j9}(a:s8 t)(h:¬Live t start):(M8 t)[0]?=some false:=by simp only[M8,H6,a2D a,a2o,h,decide_false]
theorem c2w{t:j9}(a:s8 t)(h:Live t start):(M8 t)[0]?=some true:=by simp only[M8,H6,a2D a,a2o,h,decide_true]
structure A8 where
 (p x:Nat)
 deriving DecidableEq
noncomputable abbrev G9(t:j9)(x:Nat):List (Nat×Nat):=(gL (E6 t) t).getD x []
theorem a6C{t:j9}{x:Nat}(c:x<(j4 t).length){a:Nat×Nat}(h:a∈G9 t x):∃s',step t ((j4 t).getD x D7) a.1=some s'∧Live t s'∧a.2=P4 t s'∧a.1<t.rules.length:=by
 have e:(j4 t).getD x D7=(j4 t)[x]:=by grind
 have d:G9 t x=gTo (E6 t) (j4 t)[x] t.rules.length:=by simp[G9,gL,c]
 rw[d]at h;unfold gTo at h;obtain⟨k,_,hs⟩:=a9D.1 h;unfold E6 at hs;obtain⟨s',h1,b⟩:=Y4.1 hs;split at b
 . grind
 . cases b
theorem b0q{t:j9}{x:Nat}(a:x<(j4 t).length){k:Nat}{s':State}(h:step t ((j4 t).getD x D7) k=some s')(b:Live t s'):(k,P4 t s')∈G9 t x:=by
 have c:=a2s h;have e:(j4 t).getD x D7=(j4 t)[x]:=by grind
 rw[e]at h;have d:G9 t x=gTo (E6 t) (j4 t)[x] t.rules.length:=by simp[G9,gL,a]
 rw[d];unfold gTo;exact a9D.2 ⟨k,a1v.2 c,by unfold E6;rw[h];exact if_pos b⟩
theorem a4t{t:j9}(b:s8 t){x:Nat}(c:x<(j4 t).length){a:Nat×Nat}(h:a∈G9 t x):a.1<t.rules.length∧a.2<(j4 t).length∧1≤A7 t a.1∧A7 t a.1≤4:=by obtain⟨s',h1,_,d,e⟩:=a6C c h;exact⟨e,by rw[d];exact a3e (a0g b (a2l c) h1),a7n b h1,b7r b h1⟩
theorem a6A{t:j9}(a:s8 t)(x:Nat):(G9 t x).length≤64:=by
 by_cases b:x<(j4 t).length
 . have c:G9 t x=gTo (E6 t) (j4 t)[x] t.rules.length:=(by simp[G9,gL,b]);rw[c];have:=a8j (g:=E6 t) (j4 t)[x] t.rules.length;have:=a.l64;omega
 . have:G9 t x=[]:=by
    unfold G9;rw[u9,a0d (by simp[gL];omega)];rfl
   rw[this];simp
def fits(t:j9)(l:List Nat)(i k:Nat):Prop:=cls t k<+:l.drop i
instance(t:j9)(l:List Nat)(i k:Nat):Decidable (fits t l i k):=inferInstanceAs (Decidable (_<+:_))
theorem b0a{t:j9}{l:List Nat}{i k:Nat}(h:fits t l i k):l.drop i=cls t k++l.drop (i+A7 t k):=by
 obtain⟨r,hr⟩:=h;have:l.drop (i+A7 t k)=r:=by rw[←a2X,←hr];exact List.drop_left
 rw[this,hr]
theorem a5l{t:j9}{l:List Nat}{i k:Nat}(h:fits t l i k):A7 t k≤l.length-i:=by have:=h.length_le;rw[a4H]at this;exact this
theorem b2F{t:j9}{l r:List Nat}{i k:Nat}(h:l.drop i=cls t k++r):fits t l i k∧l.drop (i+A7 t k)=r:=by refine⟨⟨r,h.symm⟩,?_⟩;rw[←a2X,h];exact List.drop_left
def Reach(t:j9)(l:List Nat)(i x:Nat):Prop:=x<(j4 t).length∧i≤l.length∧∃q,F6 t start q=some ((j4 t).getD x D7)∧C8 t q=l.take i
theorem Reach.step{t:j9}(g:s8 t){l:List Nat}{i x:Nat}(h:Reach t l i x){a:Nat×Nat}(j:a∈G9 t x)(b:fits t l i a.1):Reach t l (i+A7 t a.1) a.2:=by
 obtain⟨h1,n,q,k,m⟩:=h;obtain⟨s',c,o,d,p⟩:=a6C h1 j;have f:=a0g g (a2l h1) c;have hle:=a5l b;refine⟨by rw[d];exact a3e f,i9,q++[a.1],?_,?_⟩
 . rw[a5E,k];show(T.step t _ a.1).bind _=_;rw[c,d,a2z f];rfl
 . rw[b1c,m];have hd:=b0a b;have e:C8 t [a.1]=cls t a.1:=(by simp[C8,cls]);rw[e,List.take_add,hd];rw[show A7 t a.1=(cls t a.1).length from rfl,List.take_left]
theorem Reach.root{t:j9}(a:s8 t)(l:List Nat):Reach t l 0 0:=⟨a2j a,D6 _,[],by have h:=a2D a;show some start=_;rw[u9,h];rfl,by simp[C8]⟩
def CW(t:j9)(l:List Nat)(i x m:Nat)(c:List (List Nat)):Prop:=∀a∈(G9 t x).take m,fits t l i a.1→a.2∈c.getD (i+A7 t a.1) []
structure WI(t:j9)(l:List Nat)(p:Nat)(c:List (List Nat))(kn:List A8):Prop where
 len:c.length=l.length+1
 kno:∀i x,A8.mk i x∈kn↔x∈c.getD i []
 nodup:∀i,(c.getD i []).Nodup
 sound:∀i x,x∈c.getD i []→Reach t l i x
 root:0∈c.getD 0 []
 done:∀i,i<p→∀x∈c.getD i [],CW t l i x (G9 t x).length c
theorem CW.mono{t:j9}{l:List Nat}{i x m:Nat}{c c':List (List Nat)}(h:∀j y,y∈c.getD j []→y∈c'.getD j [])(b:CW t l i x m c):CW t l i x m c':=fun a d e=>h _ _ (b a d e)
theorem CW.succ{t:j9}{l:List Nat}{i x k:Nat}{c:List (List Nat)}{A:List (Nat×Nat)}(d:G9 t x=A)(e:k<A.length)(h:CW t l i x k c)(g:fits t l i A[k].1→A[k].2∈c.getD (i+A7 t A[k].1) []):CW t l i x (k+1) c:=by
 subst d;intro a b f;rw[L3,m7 e]at b;rcases I4.1 b with b|b
 . exact h a b f
 . grind
theorem WI.start{t:j9}(b:s8 t)(l:List Nat):WI t l 0 ((List.replicate (l.length+1) []).set 0 [0]) [⟨0,0⟩]:=by
 have e:∀i,((List.replicate (l.length+1) ([]:List Nat)).set 0 [0]).getD i []=if i=0 then [0]else []:=fun i=>by
  rw[V0];by_cases h:i=0
  . rw[if_pos h,if_pos ⟨h,l5⟩]
  . grind
 refine⟨l5,fun i x=>?_,fun i=>?_,fun i x a=>?_,by rw[e];simp,fun i hi=>i9⟩
 . grind
 . rw[e];split<;>simp
 . rw[e]at a;split at a
   . rename_i h;simp at a;subst h;subst a;exact Reach.root b l
   . simp at a
theorem WI.add{t:j9}{l:List Nat}{p i x:Nat}{c:List (List Nat)}{kn:List A8}(h:WI t l p c kn)(f:A8.mk i x∉kn)(hr:Reach t l i x)(hp:p≤i):WI t l p (c.set i (c.getD i []++[x])) (kn++[⟨i,x⟩]):=by
 have m:i<c.length:=by have:=h.len;have:=hr.2.1;omega
 have hm:∀j y,y∈c.getD j []→y∈(c.set i (c.getD i []++[x])).getD j []:=b4i c i x;refine⟨by simp[h.len],fun j y=>?_,fun j=>?_,fun j y d=>?_,hm 0 0 h.root,fun j hj y d=>?_⟩
 . rw[I4,H5,h.kno,V0]
   grind
 . rw[V0];split
   . rw[a5R];refine⟨h.nodup i,l5,fun a g b hb=>?_⟩;rw[H5]at hb;intro e;subst e;subst hb;exact f ((h.kno i a).2 g)
   . exact h.nodup j
 . rw[V0]at d;split at d
   . rename_i k;rcases I4.1 d with d|d
     . rw[k.1];exact h.sound i y d
     . grind
   . exact h.sound j y d
 . rw[V0,if_neg i9]at d;exact(h.done j hj y d).mono hm
theorem WI.next{t:j9}{l:List Nat}{p:Nat}{c:List (List Nat)}{kn:List A8}(h:WI t l p c kn)(b:∀x∈c.getD p [],CW t l p x (G9 t x).length c):WI t l (p+1) c kn:=
 ⟨h.len,h.kno,h.nodup,h.sound,h.root,fun i hi x a=>by
  by_cases d:i=p
  . subst d;exact b x a
  . exact h.done i i9 x a⟩
structure WE(t:j9)(l:List Nat)(c:List (List Nat)):Prop where
 len:c.length=l.length+1
 nodup:∀i,(c.getD i []).Nodup
 sound:∀i x,x∈c.getD i []→Reach t l i x
 root:Live t start→0∈c.getD 0 []
 done:∀i x,i≤l.length→x∈c.getD i []→∀a∈G9 t x,fits t l i a.1→a.2∈c.getD (i+A7 t a.1) []
theorem WI.fin{t:j9}{l:List Nat}{c:List (List Nat)}{kn:List A8}(h:WI t l (l.length+1) c kn):WE t l c:=
 ⟨h.len,h.nodup,h.sound,fun _=>h.root,fun i x hi b a d e=>by have:=h.done i i9 x b;unfold CW at this;rw[M4]at this;exact this a d e⟩
theorem WE.dead{t:j9}{l:List Nat}(h:¬Live t start):WE t l (List.replicate (l.length+1) []):=by
 have e:∀i,(List.replicate (l.length+1) ([]:List Nat)).getD i []=[]:=fun i=>by rw[u9,List.getElem?_replicate];split<;>simp
 exact⟨l5,fun i=>by rw[e];simp,fun i x a=>by rw[e]at a;simp at a,fun h'=>absurd h' h,fun i x _ a=>by rw[e]at a;simp at a⟩
theorem a7C{α:Type} [DecidableEq α]{f:α→PV}(c:∀a b,a1g (f a) (f b)=some (decide (a=b)))(s:α):∀(L:List α) (i:Nat),a0t (f s) (L.map f) i=some ((L.idxOf? s).map (· +i))
 | [],i=>rfl
 |a::L,i=>by
  simp only[a0N,a0t];rw[c,a7C c s L (i+1)];by_cases h:a=s
  . grind
  . have h':¬s=a:=fun e=>h e.symm;simp[h',List.idxOf?,List.findIdx?_cons,h];cases List.findIdx? (fun x=>x==s) L<;>simp;omega
abbrev SQ(s:A8):PV:=.agg [IN s.p,IN s.x]
theorem c8Q(a b:A8):a1g (SQ a) (SQ b)=some (decide (a=b)):=by cases a;cases b;simp[a1g,X1,a0X]
@[simp] theorem d2X(a b:Nat)(L:List A8):a0t (.agg [.int .i64 a,.int .i64 b]) (L.map SQ) 0=some (L.idxOf? ⟨a,b⟩):=by have:=a7C c8Q ⟨a,b⟩ L 0;simpa using this
abbrev TR(p:A8):PV:=B true
theorem c1z(cs:List PV)(kn:List A8)(p x:Nat)(r4 r5 r6 a b:Row)(ver n:Nat)(c:kn.idxOf? ⟨p,x⟩=some n)(d:n<kn.length):
 FI Tryz.prog (.fn (.func 109) [] [.ptr 3 1 0,.ptr 1 1 0]) [.agg [IN p,IN x]] [(1,.arr 1 ver false cs),(1,.var [.own 0 1 cs.length 1 0 cs.length]),(1,.mp false (kn.map SQ) (kn.map TR)),(1,.var [.mapv 2 1]),r4,r5,r6,a,b] (.tup []) [(5,(r5.1+1,.var [IN p,IN x]))]:=by
 refine a3n mixed (X:=a2u) b4J (by rfl) (by simp[a2u]) l5 fun Q f e=>?_;simp[a2u,c,d];refine e _ _ ?_;simp[M6,a2u]
theorem b6S(cs:List PV)(kn:List A8)(p x:Nat)(l:List Nat)(r4 r5:Row)(ver g6 g7 g8:Nat)(e:kn.idxOf? ⟨p,x⟩=none)(hp:p<cs.length)(o:cs.length≤1100000001)(q:cs[p]?=some (FW l))(i:l.length≤1000000):
 ∃r ws,(∃j R5 g6 g7 g8,r=.tup []∧ws=[(0,(1,.arr 1 j false (cs.set p (FW (l++[x]))))),(2,(1,.mp false ((kn++[A8.mk p x]).map SQ) ((kn++[A8.mk p x]).map TR))),(5,R5),(6,(g6,.dead)),(7,(g7,.dead)),(8,(g8,.dead))])∧
 FI Tryz.prog (.fn (.func 109) [] [.ptr 3 1 0,.ptr 1 1 0]) [.agg [IN p,IN x]] [(1,.arr 1 ver false cs),(1,.var [.own 0 1 cs.length 1 0 cs.length]),(1,.mp false (kn.map SQ) (kn.map TR)),(1,.var [.mapv 2 1]),r4,r5,(g6,.dead),(g7,.dead),(g8,.dead)] r ws:=by
 have f:cs[p]=FW l:=by grind
 obtain⟨b,k⟩:=p7 (kn++[A8.mk p x]);rw[←k];have g:kn.map SQ++[.agg [IN p,IN x]]=b.map SQ:=by grind
 have h:kn.map TR++[B true]=b.map TR:=by grind
 cases l with
 |nil=>
  have c:cs[p]=.nils:=f;refine a4x mixed (X:=a2u) b4J (by rfl) (by simp[a2u]) l5 (by kernel_rfl) fun Q m d=>?_;simp[a2u,e,hp,c,g,h];refine d _ [(0,(1,.arr 1 (ver+1) false (cs.set p (FW ([]++[x]))))),(2,(1,.mp false (b.map SQ) (b.map TR))),(5,(r5.1+1,.var [IN p,IN x])),(6,(g6+1,.dead)),(7,(g7+1,.dead)),(8,(g8,.dead))] _ _ ⟨ver+1,_,g6+1,g7+1,g8,rfl,rfl⟩ ?_;simp[M6,a2u]
 |cons a l=>
  have c:cs[p]=.uslc (IN a::l.map IN):=f;have n:(l.length+1+1)*8≤140737488355328:=by simp at i;omega
  refine a4x mixed (X:=a2u) b4J (by rfl) (by simp[a2u]) l5 (by kernel_rfl) fun Q m d=>?_;simp[a2u,e,hp,c,g,h,n];refine d _ [(0,(1,.arr 1 (ver+2+1) false (cs.set p (FW (a::l++[x]))))),(2,(1,.mp false (b.map SQ) (b.map TR))),(5,(r5.1+1,.var [IN p,IN x])),(6,(g6+1,.dead)),(7,(g7,.dead)),(8,(g8+1,.dead))] _ _ ⟨ver+2+1,_,g6+1,g7,g8+1,rfl,rfl⟩ ?_;simp[M6,a2u]
section
variable{p i:Nat}{c:List (List Nat)}
def RS(p:Nat)(c:List (List Nat)):List PV:=(List.range c.length).map fun i=>if i<p then DS (c.getD i [])else FW (c.getD i [])
theorem a5k(p:Nat)(c:List (List Nat)):(RS p c).length=c.length:=by simp[RS]
theorem b4y(hi:i<c.length):(RS p c)[i]?=some (if i<p then DS (c.getD i [])else FW (c.getD i [])):=by simp[RS,hi]
theorem b9v(p:Nat)(c:List (List Nat)):∀x,x∈RS p c→D5 x=true:=fun x a=>by
 obtain⟨i,_,rfl⟩:=E5.1 a;by_cases h:i<p
 . rw[if_pos h];unfold DS;split<;>rfl
 . rw[if_neg h];unfold FW;split<;>rfl
theorem b5g(l:List Nat)(hp:p≤i):(RS p c).set i (FW l)=RS p (c.set i l):=by
 apply W3 (by simp[RS]);intro j h1 a;have hj:j<c.length:=by simpa[RS]using h1
 have e:=V0 c i j l [];rw[a3w];simp only[RS,a0b,a3Y]
 grind
theorem c8J:(RS p c).set p (DS (c.getD p []))=RS (p+1) c:=by
 apply W3 (by simp[RS]);intro j h1 a;have hj:j<c.length:=by simpa[RS]using h1
 rw[a3w];simp only[RS,a0b,a3Y]
 grind
theorem c4B(n:Nat):RS 0 (List.replicate n [])=List.replicate n .nils:=by
 refine a7Q.2 ⟨by simp[RS],fun b hb=>?_⟩;obtain⟨i,hi,rfl⟩:=E5.1 hb
 grind
theorem c4e(p n:Nat):RS p (List.replicate n [])=List.replicate n .nils:=by
 refine a7Q.2 ⟨by simp[RS],fun b hb=>?_⟩;obtain⟨i,hi,rfl⟩:=E5.1 hb
 grind
abbrev HW(p:Nat)(c:List (List Nat))(kn:List A8)(ver:Nat)(R4 R5:Row)(g6 g7 g8:Nat):l7:=
 [(1,.arr 1 ver false (RS p c)),(1,.var [.own 0 1 c.length 1 0 c.length]),(1,.mp false (kn.map SQ) (kn.map TR)),(1,.var [.mapv 2 1]),R4,R5,(g6,.dead),(g7,.dead),(g8,.dead)]
theorem c7P{t:j9}{l:List Nat}{sp x:Nat}{kn:List A8}(ver:Nat)(R4 R5:Row)(g6 g7 g8:Nat)(h:WI t l p c kn)(z:l.length≤1100000000)(A:(j4 t).length≤3072)(hr:Reach t l i x)(hp:p≤i)(o:sp≤i):
 ∃c' k ver' R5' d e f ws,WI t l p c' k∧(∀j,∃l,c'.getD j []=c.getD j []++l)∧(∀j,j<i→c'.getD j []=c.getD j [])∧x∈c'.getD i []∧
  FI Tryz.prog (.fn (.func 109) [] [.ptr 3 1 0,.ptr 1 1 0]) [.agg [IN i,IN x]] (HW sp c kn ver R4 R5 g6 g7 g8) (.tup []) ws∧p8 (HW sp c kn ver R4 R5 g6 g7 g8) ws=HW sp c' k ver' R4 R5' d e f:=by
 have m:i<c.length:=by have:=h.len;have:=hr.2.1;omega
 by_cases b:A8.mk i x∈kn
 . obtain⟨n,g⟩:∃n,kn.idxOf? (A8.mk i x)=some n:=by
    cases q:kn.idxOf? (A8.mk i x)with
    |none=>exact absurd b (a3a.1 q)
    |some n=>exact⟨n,rfl⟩
   have s:n<kn.length:=by rw[List.idxOf?,a1Y]at g;exact g.1
   have a:=c1z (RS sp c) kn i x R4 R5 (g6,.dead) (g7,.dead) (g8,.dead) ver n g s;rw[a5k]at a;exact⟨c,kn,ver,_,g6,g7,g8,_,h,fun j=>⟨[],l5⟩,fun _ _=>rfl,(h.kno i x).1 b,a,rfl⟩
 . have hlen:(c.getD i []).length≤(j4 t).length:=a3H _ _ (h.nodup i) fun y u=>(h.sound i y u).1;obtain⟨r,ws,⟨v,R5',d,e,f,rfl,rfl⟩,a⟩:=b6S (RS sp c) kn i x (c.getD i []) R4 R5 ver g6 g7 g8 (a3a.2 b) (by rw[a5k];exact m) (by rw[a5k,h.len];omega) (by rw[b4y m,if_neg i9]) i9;rw[a5k,b5g _ o]at a;refine⟨c.set i (c.getD i []++[x]),kn++[⟨i,x⟩],v,R5',d,e,f,_,h.add b hr hp,fun j=>?_,fun j hj=>?_,?_,a,?_⟩
   . rw[V0];split
     . rename_i w;exact⟨[x],by rw[w.1]⟩
     . exact⟨[],l5⟩
   . rw[V0,if_neg i9]
   . grind
   . simp[p8]
structure WVu where
 (w8 w9 w10 w11 w15 w16 w17 w18 w19 w20 w21 w22 w23 w24:PV)
noncomputable abbrev GR(t:j9):PV:=.fptr [.slc ((gL (E6 t) t).map (SG t)),.slc ((N6 t).map B),.slc ((M8 t).map B)]
noncomputable abbrev VW(t:j9)(l:List Nat)(a p:Nat)(x:WVu):List PV:=[GR t,CL l,.nils,I 0,.ptr 1 1 0,.ptr 3 1 0,.fn (.func 109) [] [.ptr 3 1 0,.ptr 1 1 0],IN a,x.w8,x.w9,x.w10,x.w11,B false,IN (l.length+1),IN p,x.w15,x.w16,x.w17,x.w18,x.w19,x.w20,x.w21,x.w22,x.w23,x.w24]
def c4O(t:j9)(l:List Nat)(r:PV):Prop:=∃(c:List (List Nat)) (a:Int),r=.tup [.uslc (RS (l.length+1) c),I a]∧WE t l c∧ -1≤a∧a≤l.length
theorem c8y(t:j9)(f:s8 t)(l:List Nat)(aD:l.length≤1100000000):∃r,c4O t l r∧F0 79 [1,0] [GR t,CL l] r:=by
 have Z:=a0G f;have aE:=a2j f;have aa:=a8A t;have ab:0<(j4 t).length:=aE;have ac:0≤(l.length:Int)+1:=i9;have ad:((l.length:Int)+1)*24≤140737488355328:=i9;have ae:(l.length:Int)+1≤9223372036854775807:=i9;have af:((l.length:Int)+1).toNat=l.length+1:=i9;have ag:IntKind.i64.wrap ((l.length:Int)+1)=(l.length:Int)+1:=I9;refine a1C mixed (X:=X79) c79 9 (by simp[X79]) (by kernel_rfl) fun Q ah be=>?_;by_cases K:Live t start
 case neg=>
  have e:(M8 t)[0]'i9=false:=by
   have h1:=c1H f K
   grind
  have aF:WE t l (List.replicate (l.length+1) []):=WE.dead K;have aG:=c4e (l.length+1) (l.length+1);simp[X79,ag,ac,ad,ae,af,aa,ab,e];refine ah _ _ _ ⟨_,-1,rfl,aF,i9,i9⟩ ?_;simp[X79,aG]
 case pos=>
  have e:(M8 t)[0]'i9=true:=by
   have h1:=c2w f K
   grind
  simp[X79,ag,ac,ad,ae,af,aa,ab,e];have q:=b6S (List.replicate (l.length+1) .nils) [] 0 0 [] dd dd 0 0 0 0 rfl l5 I2 l5 l5;obtain⟨r,ws,⟨ai,R50,aj,ak,al,rfl,rfl⟩,q⟩:=q;have aH:(List.replicate (l.length+1) PV.nils).set 0 (FW ([]++[0]))=RS 0 ((List.replicate (l.length+1) []).set 0 [0]):=by rw[←b5g _ (m9 0),c4B];rfl
  rw[aH,List.length_replicate]at q;have s:=WI.start f l;obtain⟨c0,aI⟩:∃c,c=(List.replicate (l.length+1) []).set 0 [0]:=⟨_,rfl⟩
  rw[←aI]at q s;refine a4w (h1:=HW 0 c0 [⟨0,0⟩] ai dd R50 aj ak al) q (by simp[p8,HW,s.len]) rfl ?_;simp[HW,s.len];refine E3 (fun(y:Nat×List (List Nat)×List A8×Nat×Nat×Row×Row×Nat×Nat×Nat×WVu) vs h=>y.1≤l.length+1∧WI t l y.1 y.2.1 y.2.2.1∧y.2.2.2.1≤l.length∧vs=VW t l y.2.2.2.1 y.1 y.2.2.2.2.2.2.2.2.2.2∧h=HW y.1 y.2.1 y.2.2.1 y.2.2.2.2.1 y.2.2.2.2.2.1 y.2.2.2.2.2.2.1 y.2.2.2.2.2.2.2.1 y.2.2.2.2.2.2.2.2.1 y.2.2.2.2.2.2.2.2.2.1) (fun y=>l.length+1-y.1)
   (0,c0,[⟨0,0⟩],0,ai,dd,R50,aj,ak,al,⟨.uu,.uu,.uu,.uu,.uu,.uu,.uu,.uu,.uu,.uu,.uu,.uu,.uu,.uu⟩) ⟨D6 _,s,D6 _,rfl,by simp[HW,s.len]⟩ ?_
  rintro⟨p,c,kn,g,ver,R4,R5,g6,g7,g8,⟨v8,v9,v10,v11,v15,v16,v17,v18,v19,v20,v21,v22,v23,v24⟩⟩ vs h ⟨aJ,b,M,rfl,rfl⟩ Q2 am aK aL;dsimp only at aJ b M;by_cases hp:p<l.length+1
  . have an:(p:Int)<(l.length:Int)+1:=i9;have ao:=wk1 p i9;have aM:p<c.length:=(by have:=b.len;omega);have N:(RS p c).length=l.length+1:=(by rw[a5k,b.len]);have u:=b4y (p:=p) aM;rw[if_neg (Nat.lt_irrefl p)]at u;have D:=c8J (p:=p) (c:=c);obtain⟨L,v⟩:=p7 (c.getD p []);rw[←v]at u D;have aN:L.Nodup:=v▸b.nodup p;have ap:∀x∈L,Reach t l p x:=fun x d=>b.sound p x (v▸d);have bf:L.length≤3072:=V1 (a3H _ _ aN fun y aO=>(ap y aO).1) Z;by_cases o:L=[]
    . have O:(RS p c)[p]'i9=.nils:=by
       rw[m7 i9,o]at u;exact a0c u
      have aP:RS p c=RS (p+1) c:=by
       rw[←D,o];apply a3u;intro j;rw[a7R];by_cases hj:p=j
       . grind
       . rw[if_neg hj]
      simp[HW,VW,hp,b.len,an,N,O];refine E3 (fun(y:WVu) vs h=>vs=VW t l g p {y with w8:=IN p,w15:=B true,w16:=.nils,w17:=IN 0,w18:=IN 0}∧h=HW p c kn ver R4 R5 g6 g7 g8) (fun _=>0) ⟨.uu,_,_,_,.uu,.uu,.uu,.uu,_,_,_,_,_,_⟩ ⟨rfl,by dsimp only[HW];rw[b.len]⟩ ?_;rintro⟨v8,v9,v10,v11,v15,v16,v17,v18,v19,v20,v21,v22,v23,v24⟩ vs h ⟨rfl,rfl⟩ Q3 aq P aQ;simp[VW,HW];refine P _ _ _ ?_;simp[ao];exact am (p+1,c,kn,g,ver,_,_,_,_,_,⟨_,_,_,_,_,_,_,_,_,_,_,_,_,_⟩) _ _ i9 ⟨s5,b.next (fun x d=>by rw[←v,o]at d;simp at d),M,rfl,by dsimp only[HW];rw[aP]⟩
    . have aR:FW L=.uslc (L.map IN):=if_neg o;have ar:DS L=.slc (L.map IN):=if_neg o;rw[aR]at u;rw[ar]at D;have aS:0<L.length:=a2p.2 o;obtain⟨a0,aT⟩:∃a0,L.head?=some a0:=by
       cases L with
       |nil=>exact absurd rfl o
       |cons a L=>exact⟨a,rfl⟩
      have O:(RS p c)[p]'i9=.uslc (L.map IN):=(by grind);have aL:∀X:PV,((RS p c).set p X).length=l.length+1:=fun X=>(by rw[a4D,N]);have bg:∀c':List (List Nat),c'.length=l.length+1→c'.getD p []=L→(RS (p+1) c')[p]?=some (.slc (L.map IN)):=fun c' h1 R=>by rw[b4y i9,if_pos (Nat.lt_succ_self p),R,ar]
      have aU:(RS (p+1) c)[p]'(by rw[a5k,b.len];exact hp)=.slc (L.map IN):=(by grind);have aV:(RS (p+1) c).length=l.length+1:=(by grind);simp[HW,VW,hp,b.len,an,N,O,D,aS,aT,aU,aV];refine E3 (fun(y:Nat×List (List Nat)×List A8×Nat×Nat×Row×Row×Nat×Nat×Nat×WVu) vs h=>y.1≤L.length∧WI t l p y.2.1 y.2.2.1∧y.2.2.2.1≤l.length∧y.2.1.getD p []=L∧(∀i z,i<y.1→L[i]?=some z→CW t l p z (G9 t z).length y.2.1)∧vs=VW t l y.2.2.2.1 p {y.2.2.2.2.2.2.2.2.2.2 with w8:=IN p,w15:=B true,w16:=.slc (L.map IN),w17:=IN L.length,w18:=IN y.1}∧h=HW (p+1) y.2.1 y.2.2.1 y.2.2.2.2.1 y.2.2.2.2.2.1 y.2.2.2.2.2.2.1 y.2.2.2.2.2.2.2.1 y.2.2.2.2.2.2.2.2.1 y.2.2.2.2.2.2.2.2.2.1) (fun y=>L.length-y.1)
       (0,c,kn,g,_,_,_,_,_,_,⟨.uu,_,_,_,.uu,.uu,.uu,.uu,_,_,_,_,_,_⟩) ⟨D6 _,b,M,v.symm,fun i z hi=>absurd hi (a7S i),rfl,by dsimp only[HW];rw[b.len]⟩ ?_
      rintro⟨j,c,kn,g,ver,R4,R5,g6,g7,g8,⟨v8,v9,v10,v11,v15,v16,v17,v18,v19,v20,v21,v22,v23,v24⟩⟩ vs h ⟨aW,z2,z3,z4,z5,rfl,rfl⟩ Q3 aq P aQ;dsimp only at aW z2 z3 z4 z5;by_cases hj:j<L.length
      . have aX:=wk1 j i9;have S:=ap _ (B7 hj);obtain⟨x,au⟩:=p7 (L[j]);rw[←au]at S;have d:=S.1;have aY:(gL (E6 t) t).length=(j4 t).length:=(by simp[gL]);obtain⟨A,e⟩:=p7 (G9 t x);have aZ:(gL (E6 t) t)[x]'i9=A:=(by grind);have bh:A.length≤64:=e▸a6A f x;have a1:∀a∈A,a.1<t.rules.length∧a.2<(j4 t).length∧1≤A7 t a.1∧A7 t a.1≤4:=fun a T=>a4t f d (e▸T);simp[HW,VW,hj,←au,aY,d,aZ];refine E3 (fun(y:Nat×List (List Nat)×List A8×Nat×Nat×Row×Row×Nat×Nat×Nat×WVu) vs h=>y.1≤A.length∧WI t l p y.2.1 y.2.2.1∧y.2.2.2.1≤l.length∧y.2.1.getD p []=L∧(∀i,∃l,y.2.1.getD i []=c.getD i []++l)∧CW t l p x y.1 y.2.1∧vs=VW t l y.2.2.2.1 p {y.2.2.2.2.2.2.2.2.2.2 with w8:=IN p,w9:=IN x,w15:=B true,w16:=.slc (L.map IN),w17:=IN L.length,w18:=IN j,w19:=B true,w20:=SG t A,w21:=IN A.length,w22:=IN y.1}∧h=HW (p+1) y.2.1 y.2.2.1 y.2.2.2.2.1 y.2.2.2.2.2.1 y.2.2.2.2.2.2.1 y.2.2.2.2.2.2.2.1 y.2.2.2.2.2.2.2.2.1 y.2.2.2.2.2.2.2.2.2.1) (fun y=>A.length-y.1)
         (0,c,kn,g,_,_,_,_,_,_,⟨.uu,.uu,_,_,.uu,.uu,.uu,.uu,.uu,.uu,.uu,.uu,_,_⟩) ⟨D6 _,z2,z3,z4,fun i=>⟨[],l5⟩,fun a T=>by simp at T,rfl,rfl⟩ ?_
        rintro⟨k,c2,av,E,ver,R4,R5,g6,g7,g8,⟨v8,v9,v10,v11,v15,v16,v17,v18,v19,v20,v21,v22,v23,v24⟩⟩ vs h ⟨a2,F,U,G,H,V,rfl,rfl⟩ Q4 aw a3 bi;dsimp only at a2 F U G H V;by_cases w:k<A.length
        . have ax:=wk1 k i9;obtain⟨bj,bk,bl,bm⟩:=a1 _ (B7 w);have W:=b1h (cls t A[k].1) (l.drop p) (by have:A7 t A[k].1=(cls t A[k].1).length:=rfl;omega);have ay:=b4b (cls t A[k].1) (l.drop p);have Y:=a9s (cls t A[k].1) (l.drop p);obtain⟨n,a4⟩:=p7 (V6 (cls t A[k].1) (l.drop p));rw[←a4]at W ay Y;simp only[CL,a1J]at W;rw[a4H]at ay;have a5:p≤l.length:=i9;have a6:List.take (l.length-p) (List.drop p (l.map UN))=(l.map UN).drop p:=S7 l5;have az:IntKind.i64.wrap ((p:Int)+(n:Int))=((p+n:Nat):Int):=I9;have I:∃m:Nat,m≤l.length∧(if(E:Int)<(p:Int)+(n:Int)then(p:Int)+(n:Int)else(E:Int))=(m:Int):=by
           split
           . exact⟨p+n,i9,i9⟩
           . exact⟨E,U,rfl⟩
          obtain⟨m2,aA,I⟩:=I;simp[HW,VW,w,a5,a6];refine m6 W ?_;by_cases C:n=(cls t A[k].1).length
          . have J:fits t l p A[k].1:=Y.1 C;have bn:=a5l J;have aB:A7 t A[k].1=n:=C.symm;obtain⟨c3,a7,a8,R53,a9,ba,bb,ws,w1,w2,w3,w4,w5,w6⟩:=c7P (sp:=p+1) ver (R4.1+1,.var [St (prt t A[k].1),CL (cls t A[k].1),IN A[k].2]) R5 g6 g7 g8 F aD Z (S.step f (e▸B7 w) J) i9 i9;rw[aB]at w4 w5;simp[az,I,←C];refine a4w w5 w6 rfl ?_;simp[HW,ax];exact aw (k+1,c3,a7,m2,a8,_,R53,a9,ba,bb,⟨.uu,.uu,_,_,.uu,.uu,.uu,.uu,.uu,.uu,.uu,.uu,_,_⟩) _ _ i9 ⟨s5,w1,aA,by dsimp only;rw[w3 p i9];exact G,fun i=>by
             obtain⟨l1,h1⟩:=H i;obtain⟨bc,R⟩:=w2 i;exact⟨l1++bc,by dsimp only;rw[R,h1,a3t]⟩,(V.mono (b1C w2)).succ e.symm w (fun _=>by rw[aB];exact w4),rfl,rfl⟩
          . have J:¬fits t l p A[k].1:=fun h=>C (Y.2 h);simp[az,I,C,ax];exact aw (k+1,c2,av,m2,ver,_,R5,g6,g7,g8,⟨.uu,.uu,_,_,.uu,.uu,.uu,.uu,.uu,.uu,.uu,.uu,_,_⟩) _ _ i9 ⟨s5,F,aA,G,H,V.succ e.symm w (fun h=>absurd h J),rfl,rfl⟩
        . obtain rfl:k=A.length:=i9;simp[VW];refine a3 _ _ _ ?_;simp[aX];refine aq (j+1,c2,av,E,ver,_,_,_,_,_,⟨.uu,_,_,_,.uu,.uu,.uu,.uu,_,_,_,_,_,_⟩) _ _ i9 ⟨s5,F,U,G,fun i z hi aC=>?_,rfl,rfl⟩;dsimp only at hi aC⊢;by_cases bo:i=j
          . grind
          . exact(z5 i z i9 aC).mono (b1C H)
      . obtain rfl:j=L.length:=i9;simp[VW];refine P _ _ _ ?_;simp[ao];exact am (p+1,c,kn,g,ver,_,_,_,_,_,⟨_,_,_,_,_,_,_,_,_,_,_,_,_,_⟩) _ _ i9 ⟨s5,z2.next (fun x d=>by
         rw[z4]at d;obtain⟨i,hi,rfl⟩:=a1t d;exact z5 i _ hi (m7 hi)),z3,rfl,rfl⟩
  . obtain rfl:p=l.length+1:=i9;have bd:(∀x,x∈RS (l.length+1) c→D5 x=true)=True:=eq_true (b9v _ _);simp[HW,VW];refine aK _ _ _ ?_;simp;refine ah _ _ _ ⟨c,g,rfl,b.fin,i9,i9⟩ ?_;simp[X79,a5k,bd]
end
section
variable{L:List Nat}{c:List (List Nat)}{j p x:Nat}
def Good(t:j9)(l:List Nat)(i x:Nat):Prop:=∃q a,F6 t ((j4 t).getD x D7) q=some a∧C0 t a=true∧C8 t q=l.drop i
theorem Good.stop{t:j9}{l:List Nat}(h:C0 t ((j4 t).getD x D7)=true):Good t l l.length x:=⟨[],_,rfl,h,by simp[C8]⟩
theorem Good.step{t:j9}(d:s8 t){l:List Nat}{i x:Nat}(b:x<(j4 t).length){a:Nat×Nat}(e:a∈G9 t x)(f:fits t l i a.1)(h:Good t l (i+A7 t a.1) a.2):Good t l i x:=by
 obtain⟨s',h1,_,g,_⟩:=a6C b e;obtain⟨q,j,c,k,m⟩:=h;rw[g,a2z (a0g d (a2l b) h1)]at c;refine⟨a.1::q,j,?_,k,?_⟩
 . show(T.step t _ a.1).bind _=_;rw[h1];exact c
 . rw[b0a f,←m];rfl
theorem Good.cases{t:j9}(m:s8 t){l:List Nat}{i:Nat}(f:x<(j4 t).length)(hi:i≤l.length)(h:Good t l i x):(i=l.length∧C0 t ((j4 t).getD x D7)=true)∨∃a∈G9 t x,fits t l i a.1∧Good t l (i+A7 t a.1) a.2:=by
 obtain⟨q,d,b,e,c⟩:=h
 match q,b,c with
 | [],b,c=>
  obtain rfl:=a0c b;have:(l.drop i).length=0:=by rw[←c];rfl
  rw[a4H]at this;exact .inl ⟨i9,e⟩
 |k::q,b,c=>
  obtain⟨s1,g,j⟩:=Y4.1 (show(T.step t _ k).bind (fun s'=>F6 t s' q)=some d from b);have hd:l.drop i=cls t k++C8 t q:=by rw[←c];rfl
  obtain⟨f1,f2⟩:=b2F hd;have n:=a0g m (a2l f) g;exact .inr ⟨_,b0q f g ⟨q,d,j,e⟩,f1,q,d,by rw[a2z n];exact j,e,f2.symm⟩
theorem Good.live{t:j9}(b:s8 t){l:List Nat}{i:Nat}(h:Good t l i 0):Live t start:=by
 obtain⟨q,c,a,d,_⟩:=h;have e:(j4 t).getD 0 D7=start:=by rw[u9,a2D b];rfl
 rw[e]at a;exact⟨q,c,a,d⟩
def GI(t:j9)(l:List Nat)(c:List (List Nat))(P:Nat)(L:List Nat)(j:Nat)(gd:List A8):Prop:=
 ∀i x,A8.mk i x∈gd↔(x∈c.getD i []∧Good t l i x∧i≤l.length∧(P≤i∨(i+1=P∧x∈L.take j)))
theorem GI.start(t:j9)(l:List Nat)(c:List (List Nat))(L:List Nat):GI t l c (l.length+1) L 0 []:=fun i x=>by simp;intros;omega
theorem b9c(hj:j<L.length):x∈L.take (j+1)↔x∈L.take j∨x=L[j]:=by rw[L3,m7 hj,I4];simp
theorem c6F(a:L.Nodup)(hj:j<L.length):L[j]∉L.take j:=fun h=>by obtain⟨i,hi,he⟩:=a1t h;rw[a1W]at hi;rw[List.getElem_take]at he;exact a5Q.1 a i j i9 hj i9 he
theorem GI.new{t:j9}{l:List Nat}{gd:List A8}(h:GI t l c (p+1) L j gd)(b:L.Nodup)(hj:j<L.length):A8.mk p L[j]∉gd:=fun hm=>by
 obtain⟨_,_,_,a⟩:=(h p L[j]).1 hm;rcases a with a|a
 . omega
 . exact c6F b hj a.2
theorem GI.yes{t:j9}{l:List Nat}{gd:List A8}(h:GI t l c (p+1) L j gd)(a:L=c.getD p [])(hp:p≤l.length)(hj:j<L.length)(b:Good t l p L[j]):GI t l c (p+1) L (j+1) (gd++[⟨p,L[j]⟩]):=fun i x=>by
 rw[I4,H5,h,b9c hj];constructor
 . grind
 . grind
theorem GI.no{t:j9}{l:List Nat}{gd:List A8}(h:GI t l c (p+1) L j gd)(hj:j<L.length)(a:¬Good t l p L[j]):GI t l c (p+1) L (j+1) gd:=fun i x=>by
 rw[h,b9c hj];constructor
 . grind
 . grind
theorem GI.next{t:j9}{l:List Nat}{L':List Nat}{gd:List A8}(h:GI t l c (p+1) L L.length gd)(a:L=c.getD p []):GI t l c p L' 0 gd:=fun i x=>by
 rw[h,M4];simp only[List.take_zero,List.not_mem_nil,and_false,or_false];constructor
 . grind
 . grind
theorem GI.ahead{t:j9}{l:List Nat}{gd:List A8}(h:GI t l c (p+1) L j gd)(d:WE t l c)(e:x∈c.getD p [])(hp:p≤l.length){a:Nat×Nat}(f:a∈G9 t x)(b:fits t l p a.1)(h1:1≤A7 t a.1):A8.mk (p+A7 t a.1) a.2∈gd↔Good t l (p+A7 t a.1) a.2:=by have hle:=a5l b;rw[h];exact⟨fun h=>h.2.1,fun g=>⟨d.done p x hp e a f b,g,i9,.inl i9⟩⟩
structure RDs(t:j9)(l:List Nat)(gd:List A8):Prop where
 snd:∀i x,A8.mk i x∈gd→Reach t l i x∧Good t l i x
 root:Good t l 0 0→A8.mk 0 0∈gd
 next:∀i x,A8.mk i x∈gd→∀a∈G9 t x,fits t l i a.1→Good t l (i+A7 t a.1) a.2→A8.mk (i+A7 t a.1) a.2∈gd
theorem GI.fin{t:j9}(g:s8 t){l:List Nat}{gd:List A8}(h:GI t l c 0 L 0 gd)(d:WE t l c):RDs t l gd:=by
 refine⟨fun i x hm=>?_,fun b=>?_,fun i x hm a j e b=>?_⟩
 . obtain⟨h1,f,_⟩:=(h i x).1 hm;exact⟨d.sound i x h1,f⟩
 . exact(h 0 0).2 ⟨d.root (b.live g),b,D6 _,.inl (D6 _)⟩
 . obtain⟨h1,f,k,_⟩:=(h i x).1 hm;have hle:=a5l e;exact(h _ _).2 ⟨d.done i x k h1 a j e,b,i9,.inl (D6 _)⟩
open Classical in
noncomputable def GXp(t:j9)(l:List Nat)(c:List (List Nat)):Nat→List A8
 |0=>[]
 |k+1=>GXp t l c k++((c.getD (l.length-k) []).filter fun x=>decide (Good t l (l.length-k) x)).map (A8.mk (l.length-k))
open Classical in
noncomputable def GXj(t:j9)(l:List Nat)(c:List (List Nat))(p:Nat)(L:List Nat)(j:Nat):List A8:=GXp t l c (l.length-p)++((L.take j).filter fun x=>decide (Good t l p x)).map (A8.mk p)
theorem c7O(t:j9)(l:List Nat)(c:List (List Nat))(p:Nat)(L:List Nat):GXj t l c p L 0=GXp t l c (l.length-p):=by simp[GXj]
theorem b7j{t:j9}{l:List Nat}(hj:j<L.length)(h:Good t l p L[j]):GXj t l c p L (j+1)=GXj t l c p L j++[⟨p,L[j]⟩]:=by unfold GXj;rw[L3,m7 hj,b1L,Q9,a3t];simp[h]
theorem c3U{t:j9}{l:List Nat}(hj:j<L.length)(h:¬Good t l p L[j]):GXj t l c p L (j+1)=GXj t l c p L j:=by unfold GXj;rw[L3,m7 hj,b1L,Q9];simp[h]
theorem c5h{t:j9}{l:List Nat}(hp:p≤l.length):GXj t l c p (c.getD p []) (c.getD p []).length=GXp t l c (l.length+1-p):=by
 unfold GXj;rw[M4,show l.length+1-p=(l.length-p)+1 by omega];show _=GXp t l c (l.length-p)++_
 grind
theorem b7k(t:j9)(l:List Nat)(c:List (List Nat)):∀k,k≤l.length+1→GI t l c (l.length+1-k) [] 0 (GXp t l c k)
 |0,_=>GI.start t l c []
 |k+1,b=>fun i x=>by
  have a:=b7k t l c k i9 i x;simp only[List.take_nil,List.not_mem_nil,and_false,or_false]at a⊢;unfold GXp
  grind
theorem c1W{t:j9}(a:s8 t){l:List Nat}(b:WE t l c):RDs t l (GXp t l c (l.length+1)):=by have:=b7k t l c (l.length+1) (m9 _);rw[a6L]at this;exact this.fin a b
end
def CF(c:List (List Nat)):List PV:=(List.range c.length).map fun i=>.slc ((c.getD i []).map IN)
theorem c8w(c:List (List Nat)):(CF c).length=c.length:=by simp[CF]
theorem c6K{c:List (List Nat)}(i:Nat)(h:i<(CF c).length):(CF c)[i]=.slc ((c.getD i []).map IN):=by simp[CF]
theorem c4P(c:List (List Nat)):∀x,x∈CF c→D5 x=true:=fun x a=>by obtain⟨i,_,rfl⟩:=E5.1 a;rfl
theorem c4s(c:List (List Nat)):(CF c).map B4=CF c:=by unfold CF;rw[a1w];exact K3 fun i _=>rfl
theorem c3P(p:Nat)(c:List (List Nat)):(RS p c).map B4=CF c:=by unfold RS CF;rw[a1w];refine K3 fun i _=>?_;simp only[Function.comp_apply];cases c.getD i []<;>split<;>simp[B4,K8]<;>rfl
noncomputable abbrev RD(t:j9)(l:List Nat)(gd:List A8):PV:=.fptr [GR t,CL l,.N3 (gd.map SQ) (gd.map TR)]
def c7c(t:j9)(l:List Nat)(r:PV):Prop:=∃(gd:List A8) (a:Int),r=.tup [RD t l gd,I a]∧RDs t l gd∧ -1≤a∧a≤l.length
structure NV where
 (w9 w10 w11 w12 w13 w14 w15 w16 w17 w18 w19 w20:PV)
noncomputable abbrev VN(t:j9)(l:List Nat)(c:List (List Nat))(a pl:Int)(x:NV):List PV:=[TP t,CL l,.ptr 0 1 0,.lit (.pointer none),I 0,.ptr 3 1 0,.slc (CF c),I a,I pl,x.w9,x.w10,x.w11,x.w12,x.w13,x.w14,x.w15,x.w16,x.w17,x.w18,x.w19,x.w20]
noncomputable abbrev HN(t:j9)(l:List Nat)(gd:List A8)(R4 R5 R6 R10 R11 R12:Row):l7:=
 [(1,.var (TC t)),(1,.mp false (gd.map SQ) (gd.map TR)),(1,.var [GR t,CL l,.mapv 1 1]),(1,.var [.ptr 2 1 0]),R4,R5,R6,dd,dd,dd,R10,R11,R12]
theorem b5D(t:j9)(l:List Nat)(gd:List A8)(R4 R5 R6 R10 R11 R12:Row)(i x:Nat):FI Tryz.prog (.fn (.func 80) [] []) [.ptr 2 1 0,.agg [IN i,IN x]] (HN t l gd R4 R5 R6 R10 R11 R12)
 (.fn (.func 111) [] [.ptr 10 (R10.1+1) 0,.ptr 11 (R11.1+1) 0]) [(10,(R10.1+1,.var [.ptr 2 1 0])),(11,(R11.1+1,.var [IN i,IN x]))]:=by
 refine a3n mixed (X:=X80) c80 (by rfl) (by simp[X80]) l5 fun Q a b=>?_;simp[X80,HN];refine a _ _ ?_;simp[X80,M6]
theorem c9s(t:j9)(f:s8 t)(l:List Nat)(aD:l.length≤1100000000):∃r,c7c t l r∧F0 41 [0,0] [TP t,CL l] r:=by
 have aE:=a0G f;have ba:=a2j f;obtain⟨r,⟨c,U,rfl,H,aF,aG⟩,hw⟩:=c8y t f l aD;have aH:(∀x,x∈RS (l.length+1) c→D5 x=true)=True:=eq_true (b9v _ _);have aI:=c3P (l.length+1) c;have V:=c8w c;have ak:=a5k (l.length+1) c;rw[H.len]at V ak;have aJ:List.take (l.length+1) (CF c)=CF c:=S7 i9;have al:(N6 t).length=(j4 t).length:=by simp[N6]
 have am:(gL (E6 t) t).length=(j4 t).length:=by simp[gL]
 refine⟨_,⟨GXp t l c (l.length+1),U,rfl,c1W f H,aF,aG⟩,?_⟩;refine E4 c41 13 (by simp[X41]) fun Q aK bb=>?_;simp[X41];refine m6 (c9y t f) ?_;simp;refine m6 hw ?_;have aL:(∀x,x∈CF c→D5 x=true)=True:=eq_true (c4P c);have aM:=c4s c;have aN:=c6K (c:=c);simp[aH,aI,V,ak,aJ,aL,aM];obtain⟨R4,aO⟩:∃R4:Row,R4=(1,.arr 1 1 true (CF c)):=⟨_,rfl⟩
 rw[←aO];refine E3 (fun(y:Nat×List A8×Row×Row×Row×Row×Row×NV) vs h=>y.1≤l.length+1∧GI t l c y.1 (c.getD (y.1-1) []) 0 y.2.1∧y.2.1=GXp t l c (l.length+1-y.1)∧vs=VN t l c U ((y.1:Int)-1) y.2.2.2.2.2.2.2∧h=HN t l y.2.1 R4 y.2.2.1 y.2.2.2.1 y.2.2.2.2.1 y.2.2.2.2.2.1 y.2.2.2.2.2.2.1) (fun y=>y.1)
  (l.length+1,[],dd,dd,dd,dd,dd,⟨_,_,_,_,_,_,_,_,_,_,_,_⟩) ⟨m9 _,GI.start t l c _,by dsimp only;rw[a6L];rfl,by dsimp only;rw[show((l.length+1:Nat):Int)-1=(l.length:Int)by omega],rfl⟩ ?_
 rintro⟨P,gd,R5,R6,R10,R11,R12,⟨v9,v10,v11,v12,v13,v14,v15,v16,v17,v18,v19,v20⟩⟩ vs h ⟨aP,J,W,rfl,rfl⟩ Q2 aQ aR bc;dsimp only at aP J W;cases P with
 |zero=>
  simp[VN,HN];refine aR _ _ _ ?_;subst W;have g:List.map (K8∘TR) (GXp t l c (l.length+1))=(GXp t l c (l.length+1)).map TR:=K3 fun _ _=>rfl;simp[g];refine aK _ _ ?_;simp[X41]
 |succ p=>
  have bd:(p:Int)<(l.length:Int)+1:=i9;have D:p≤l.length:=i9;have aS:p<l.length+1:=i9;have aT:IntKind.i64.wrap ((p:Int)-1)=(p:Int)-1:=I9;have aU:((p+1:Nat):Int)-1=(p:Int):=i9;dsimp only;rw[aU];rw[show p+1-1=p from rfl]at J;have an:=aN p i9;obtain⟨L,u⟩:=p7 (c.getD p []);rw[←u]at J an;have ao:L.Nodup:=u▸H.nodup p;have ap:∀x∈L,Reach t l p x:=fun x e=>H.sound p x (u▸e);have be:L.length≤3072:=V1 (a3H _ _ ao fun y aV=>(ap y aV).1) aE;simp[VN,HN,V,aS,an];refine E3 (fun(y:Nat×List A8×Row×Row×Row×Row×Row×NV) vs h=>y.1≤L.length∧GI t l c (p+1) L y.1 y.2.1∧y.2.1=GXj t l c p L y.1∧vs=VN t l c U p {y.2.2.2.2.2.2.2 with w13:=.slc (L.map IN),w14:=IN L.length,w15:=IN y.1}∧h=HN t l y.2.1 R4 y.2.2.1 y.2.2.2.1 y.2.2.2.2.1 y.2.2.2.2.2.1 y.2.2.2.2.2.2.1) (fun y=>L.length-y.1)
   (0,gd,_,_,_,_,_,⟨_,_,_,_,.uu,.uu,.uu,_,_,_,_,_⟩) ⟨D6 _,J,by dsimp only;rw[c7O,W,show l.length+1-(p+1)=l.length-p by omega],rfl,rfl⟩ ?_
  rintro⟨j,gd,R5,R6,R10,R11,R12,⟨v9,v10,v11,v12,v13,v14,v15,v16,v17,v18,v19,v20⟩⟩ vs h ⟨aW,z2,z3,rfl,rfl⟩ Q3 Y aX bf;dsimp only at aW z2 z3;by_cases hj:j<L.length
  . have Z:=wk1 j i9;have aq:=ap _ (B7 hj);have ar:=z2.new ao hj;have o:=z2.yes u D hj;have K:=z2.no hj;have au:L[j]∈c.getD p []:=u▸B7 hj;obtain⟨x,i⟩:=p7 (L[j]);rw[←i]at aq ar o K au;have e:=aq.1;obtain⟨A,E⟩:=p7 (G9 t x);have av:(gL (E6 t) t)[x]'i9=A:=(by rw[E];unfold G9;rw[u9,m7 i9];rfl);have bg:A.length≤64:=E▸a6A f x;have M:∀a∈A,a.1<t.rules.length∧a.2<(j4 t).length∧1≤A7 t a.1∧A7 t a.1≤4:=fun a b=>a4t f e (E▸b);have aY:∀a∈A,fits t l p a.1→(A8.mk (p+A7 t a.1) a.2∈gd↔Good t l (p+A7 t a.1) a.2):=fun a b aa=>z2.ahead H au D (E▸b) aa (M a b).2.2.1;have aw:=a3a.2 ar;have ax:(j4 t).getD x D7=(j4 t)[x]:=(by rw[u9,m7 e];rfl);have ay:(N6 t)[x]'i9=C0 t (j4 t)[x]:=(by simp only[N6,a0b]);obtain⟨g2,I⟩:=p7 (gd++[A8.mk p x]);rw[←I]at o;have f1:gd.map SQ++[.agg [IN p,IN x]]=g2.map SQ:=(by rw[I,Q9];rfl);have f2:gd.map TR++[B true]=g2.map TR:=(by rw[I,Q9];rfl);by_cases F:p=l.length∧C0 t ((j4 t).getD x D7)=true
    . have aZ:(p=l.length)=True:=eq_true F.1;have v:Good t l p x:=(by rw[F.1];exact Good.stop F.2);have o:=o v;have s:=(b7j (t:=t) (c:=c) hj (i▸v)).symm;rw[←z3,←i,←I]at s;have az:∀a∈A,¬fits t l p a.1:=fun a b aa=>by
       have:=a5l aa;have:=(M a b).2.2.1;omega
      have a0:C0 t (j4 t)[x]=true:=(by rw[←ax];exact F.2);simp[VN,HN,hj,←i,aZ,al,e,ay,a0,aw,f1,f2];refine a2H (b5D t l g2 R4 (R5.1+1,.var [IN p,IN x]) R6 R10 R11 R12 p x) ?_;simp[HN];refine b2o mixed (X:=a3A) b2U rfl (by rfl) (by simp[a3A]) l5 ?_;intro ab Q4 aA ac;simp[a3A,am,e,av];refine E3 (fun(y:Nat×Row×Row×PV×PV×PV) vs h=>y.1≤A.length∧(∀a∈A.take y.1,fits t l p a.1→¬Good t l (p+A7 t a.1) a.2)∧vs=[.fn (.yield ab) [] [],.ptr 10 (R10.1+1) 0,.ptr 11 (R11.1+1) 0,y.2.2.2.1,SG t A,IN A.length,IN y.1,y.2.2.2.2.1,y.2.2.2.2.2,gOf none]∧
       h=HN t l g2 R4 (R5.1+1,.var [IN p,IN x]) y.2.2.1 (R10.1+1,.var [.ptr 2 1 0]) (R11.1+1,.var [IN p,IN x]) y.2.1) (fun y=>A.length-y.1) (0,R12,R6,.uu,.uu,.uu) ⟨D6 _,fun a b=>by simp at b,rfl,rfl⟩ ?_
      rintro⟨k,R12,R6,v3,v7,v8⟩ vs h ⟨ad,w,rfl,rfl⟩ Q5 N ae aB;dsimp only at ad w;by_cases d:k<A.length
      . have O:=wk1 k i9;obtain⟨a1,a2,a3,a4⟩:=M _ (B7 d);have z:=b1h (cls t A[k].1) (l.drop p) (by have:A7 t A[k].1=(cls t A[k].1).length:=rfl;omega);have G:=a9s (cls t A[k].1) (l.drop p);obtain⟨n,af⟩:=p7 (V6 (cls t A[k].1) (l.drop p));rw[←af]at z G;simp only[CL,a1J]at z;have ag:List.take (l.length-p) (List.drop p (l.map UN))=(l.map UN).drop p:=S7 l5;have R:(fits t l p A[k].1→¬Good t l (p+A7 t A[k].1) A[k].2)→∀a∈A.take (k+1),fits t l p a.1→¬Good t l (p+A7 t a.1) a.2:=fun h a b=>by
         rw[L3,m7 d]at b;rcases I4.1 b with b|b
         . exact w a b
         . simp only[a9G,H5]at b;subst b;exact h
        simp[HN,d,D,ag];refine m6 z ?_;have C:¬n=(cls t A[k].1).length:=fun h=>az _ (B7 d) (G.1 h);have g:¬fits t l p A[k].1:=az _ (B7 d);simp[C,O];exact N (k+1,_,R6,_,_,_) _ _ s5 ⟨s5,R (fun h=>absurd h g),rfl,rfl⟩
      . obtain rfl:k=A.length:=i9;simp;refine ae _ _ _ ?_;simp;refine ac none _ _ (by rfl) ?_;simp[Z];exact Y (j+1,g2,_,R6,_,_,_,⟨_,_,_,_,.uu,.uu,.uu,_,_,_,_,_⟩) _ _ s5 ⟨s5,o,s,rfl,rfl⟩
    . by_cases ah:p=l.length
      case' pos=>
       have a5:(N6 t)[x]'i9=false:=by
        rw[ay,←ax];cases hb:C0 t ((j4 t).getD x D7)with
        |false=>rfl
        |true=>exact absurd ⟨ah,hb⟩ F
       simp[VN,HN,hj,←i,eq_true ah,al,e,a5]
      case' neg=>
       simp[VN,HN,hj,←i,eq_false ah]
      all_goals
       refine a2H (b5D t l gd R4 (R5.1+1,.var [IN p,IN x]) R6 R10 R11 R12 p x) ?_;simp[HN];refine b2o mixed (X:=a3A) b2U rfl (by rfl) (by simp[a3A]) l5 ?_;intro ab Q4 aA ac;simp[a3A,am,e,av];refine E3 (fun(y:Nat×Row×Row×PV×PV×PV) vs h=>y.1≤A.length∧(∀a∈A.take y.1,fits t l p a.1→¬Good t l (p+A7 t a.1) a.2)∧vs=[.fn (.yield ab) [] [],.ptr 10 (R10.1+1) 0,.ptr 11 (R11.1+1) 0,y.2.2.2.1,SG t A,IN A.length,IN y.1,y.2.2.2.2.1,y.2.2.2.2.2,gOf none]∧
        h=HN t l gd R4 (R5.1+1,.var [IN p,IN x]) y.2.2.1 (R10.1+1,.var [.ptr 2 1 0]) (R11.1+1,.var [IN p,IN x]) y.2.1) (fun y=>A.length-y.1) (0,R12,R6,.uu,.uu,.uu) ⟨D6 _,fun a b=>by simp at b,rfl,rfl⟩ ?_
       rintro⟨k,R12,R6,v3,v7,v8⟩ vs h ⟨ad,w,rfl,rfl⟩ Q5 N ae aB;dsimp only at ad w;by_cases d:k<A.length
       . have O:=wk1 k i9;obtain⟨a1,a2,a3,a4⟩:=M _ (B7 d);have z:=b1h (cls t A[k].1) (l.drop p) (by have:A7 t A[k].1=(cls t A[k].1).length:=rfl;omega);have G:=a9s (cls t A[k].1) (l.drop p);obtain⟨n,af⟩:=p7 (V6 (cls t A[k].1) (l.drop p));rw[←af]at z G;simp only[CL,a1J]at z;have ag:List.take (l.length-p) (List.drop p (l.map UN))=(l.map UN).drop p:=S7 l5;have R:(fits t l p A[k].1→¬Good t l (p+A7 t A[k].1) A[k].2)→∀a∈A.take (k+1),fits t l p a.1→¬Good t l (p+A7 t a.1) a.2:=fun h a b=>by
          rw[L3,m7 d]at b;rcases I4.1 b with b|b
          . exact w a b
          . simp only[a9G,H5]at b;subst b;exact h
         simp[HN,d,D,ag];refine m6 z ?_;by_cases C:n=(cls t A[k].1).length
         . have g:fits t l p A[k].1:=G.1 C;have bh:=a5l g;have ai:A7 t A[k].1=n:=C.symm;have S:=aY _ (B7 d) g;rw[ai]at S;have aC:IntKind.i64.wrap ((p:Int)+(n:Int))=((p+n:Nat):Int):=I9;obtain⟨q,aj⟩:=p7 (p+n);rw[←aj]at aC S;simp[←C,aC];refine a4O rfl rfl ?_;cases hid:gd.idxOf? (A8.mk q A[k].2)with
           |some m=>
            have a6:m<gd.length:=by rw[List.idxOf?,a1Y]at hid;exact hid.1
            have a7:A8.mk q A[k].2∈gd:=by refine Decidable.byContradiction fun hm=>?_;rw[a3a.2 hm]at hid;cases hid
            have v:Good t l p x:=Good.step f e (E▸B7 d) g (by rw[ai,←aj];exact S.1 a7);have o:=o v;have s:=(b7j (t:=t) (c:=c) hj (i▸v)).symm;rw[←z3,←i,←I]at s;simp[a5J,hid,a6,aw,f1,f2];refine aB _ _ ?_;simp;refine aA (some (.exit 4)) _ _ (by rfl) ?_;simp[Z];exact Y (j+1,g2,_,_,_,_,_,⟨_,_,_,_,.uu,.uu,.uu,_,_,_,_,_⟩) _ _ s5 ⟨s5,o,s,rfl,rfl⟩
           |none=>
            have T:¬Good t l (p+A7 t A[k].1) A[k].2:=fun h=>by rw[ai,←aj]at h;exact a3a.1 hid (S.2 h)
            simp[a5J,hid,O];exact N (k+1,_,_,_,_,_) _ _ s5 ⟨s5,R (fun _=>T),rfl,rfl⟩
         . have g:¬fits t l p A[k].1:=fun h=>C (G.2 h);simp[C,O];exact N (k+1,_,R6,_,_,_) _ _ s5 ⟨s5,R (fun h=>absurd h g),rfl,rfl⟩
       . obtain rfl:k=A.length:=i9;have T:¬Good t l p x:=fun v=>by
          rcases v.cases f e D with h|⟨a,h1,a8,a9⟩
          . exact F h
          . rw[M4]at w;exact w a (E▸h1) a8 a9
         have K:=K T;have s:=(c3U (t:=t) (c:=c) hj (i▸T)).symm;rw[←z3]at s;simp;refine ae _ _ _ ?_;simp;refine ac none _ _ (by rfl) ?_;simp[Z];exact Y (j+1,gd,_,R6,_,_,_,⟨_,_,_,_,.uu,.uu,.uu,_,_,_,_,_⟩) _ _ s5 ⟨s5,K,s,rfl,rfl⟩
  . obtain rfl:j=L.length:=i9;simp[VN];refine aX _ _ _ ?_;simp[aT];exact aQ (p,gd,_,_,_,_,_,⟨_,_,_,_,_,_,_,_,_,_,_,_⟩) _ _ s5 ⟨s5,z2.next u,by dsimp only;rw[z3,u,c5h D],rfl,rfl⟩
structure p9 where
 (p x:Nat)
 (r:By)
 deriving DecidableEq
abbrev p9.s(h:p9):A8:=⟨h.p,h.x⟩
inductive Sp(t:j9)(l:List Nat)(gd:List A8)(L:List p9):p9→Prop
 |base {h:p9}:h∈L→h.s∈gd→Sp t l gd L h
 |step {p x:Nat} {a:Nat×Nat}:Sp t l gd L ⟨p,x,[]⟩→a∈G9 t x→fits t l p a.1→A8.mk (p+A7 t a.1) a.2∈gd→Sp t l gd L ⟨p+A7 t a.1,a.2,prt t a.1⟩
theorem Sp.b9U{t:j9}{l:List Nat}{gd:List A8}{L:List p9}{h:p9}(hs:Sp t l gd L h):h.s∈gd:=by
 cases hs with
 |base _ g=>exact g
 |step _ _ _ g=>exact g
def Nxt(t:j9)(l:List Nat)(gd:List A8)(h:p9)(a:Nat×Nat)(K:List p9):Prop:=fits t l h.p a.1→A8.mk (h.p+A7 t a.1) a.2∈gd→p9.mk (h.p+A7 t a.1) a.2 (prt t a.1)∈K
structure SI(t:j9)(l:List Nat)(gd:List A8)(L:List p9)(j:Nat)(K O F:List p9)(ends:Bool)(cur:Option p9)(m:Nat):Prop where
 nodup:K.Nodup
 sound:∀h∈K,Sp t l gd L h
 base:∀i h,i<j→L[i]?=some h→h.s∈gd→h∈K
 opn:∀h∈O,h∈K∧h.r=[]
 onod:O.Nodup
 fnd:F=K.filter fun h=>!h.r.isEmpty
 done:∀h∈K,h.r=[]→h∉O→cur≠some h→∀a∈G9 t h.x,Nxt t l gd h a K
 curd:∀h,cur=some h→h∈K∧h.r=[]∧h∉O∧∀a∈(G9 t h.x).take m,Nxt t l gd h a K
 fin:ends=true↔∃h∈K,h.r=[]∧h∉O∧h.p=l.length∧C0 t ((j4 t).getD h.x D7)=true
theorem SI.start(t:j9)(l:List Nat)(gd:List A8)(L:List p9):SI t l gd L 0 [] [] [] false none 0:=
 ⟨l5,l5,fun i h hi=>i9,l5,l5,rfl,l5,l5,l5⟩
def a1n(K O:List p9)(h:p9):List p9:=if h∈K then O else if h.r=[]then O++[h]else O
def a2O(K F:List p9)(h:p9):List p9:=if h∈K then F else if h.r=[]then F else F++[h]
def Y0(K:List p9)(h:p9):List p9:=if h∈K then K else K++[h]
theorem b4h(K:List p9)(h:p9):h∈Y0 K h:=by
 unfold Y0;split
 . assumption
 . simp
theorem c2t{K:List p9}{h x:p9}(a:x∈K):x∈Y0 K h:=by
 unfold Y0;split
 all_goals grind
theorem SI.add{t:j9}{l:List Nat}{gd:List A8}{L:List p9}{j m:Nat}{K O F:List p9}{ends:Bool}{cur:Option p9}(h:SI t l gd L j K O F ends cur m){x:p9}(o:Sp t l gd L x):SI t l gd L j (Y0 K x) (a1n K O x) (a2O K F x) ends cur m:=by
 by_cases d:x∈K
 . unfold Y0 a1n a2O
   grind
 . have hm:∀y,y∈K→y∈Y0 K x:=fun y c=>c2t c;have p:∀y,y∈K→(y∈a1n K O x↔y∈O):=fun y c=>by
    unfold a1n;rw[if_neg d];split
    . grind
    . exact Iff.rfl
   have q:x.r=[]→x∈a1n K O x:=fun hr=>(by unfold a1n;rw[if_neg d,if_pos hr];simp);have r:∀y a,Nxt t l gd y a K→Nxt t l gd y a (Y0 K x):=fun y a s h1 u=>hm _ (s h1 u);have k:∀y,y∈Y0 K x→y∈K∨y=x:=fun y c=>by unfold Y0 at c;rw[if_neg d]at c;simpa using c
   refine⟨?_,fun y c=>?_,fun i y hi c hs=>hm _ (h.base i y hi c hs),fun y c=>?_,?_,?_,fun y c hr n g a f=>?_,fun y g=>?_,?_⟩
   . unfold Y0;rw[if_neg d,a5R];refine⟨h.nodup,l5,fun a f b hb=>?_⟩
     grind
   . rcases k y c with c|rfl
     . exact h.sound y c
     . exact o
   . unfold a1n at c;rw[if_neg d]at c;split at c
     . rename_i hr;rcases I4.1 c with c|c
       . exact⟨hm _ (h.opn y c).1,(h.opn y c).2⟩
       . rw[H5]at c;subst c;exact⟨b4h K y,hr⟩
     . exact⟨hm _ (h.opn y c).1,(h.opn y c).2⟩
   . unfold a1n;rw[if_neg d];split
     . rw[a5R];refine⟨h.onod,l5,fun a f b hb=>?_⟩;rw[H5]at hb;intro e;subst e;subst hb;exact d (h.opn a f).1
     . exact h.onod
   . unfold a2O Y0;rw[if_neg d,if_neg d,b1L,←h.fnd]
     grind
   . rcases k y c with c|rfl
     . exact r _ _ (h.done y c hr (fun e=>n ((p y c).2 e)) g a f)
     . exact absurd (q hr) n
   . obtain⟨c1,c2,c3,c4⟩:=h.curd y g
     grind
   . rw[h.fin];constructor
     . grind
     . grind
theorem SI.input{t:j9}{l:List Nat}{gd:List A8}{L:List p9}{j:Nat}{K O F:List p9}{ends:Bool}(h:SI t l gd L j K O F ends none 0)(hj:j<L.length)(hs:L[j].s∈gd):SI t l gd L (j+1) (Y0 K L[j]) (a1n K O L[j]) (a2O K F L[j]) ends none 0:=by
 have b:=h.add (.base (B7 hj) hs);refine{b with base:=fun i y hi a c=>?_};by_cases d:i=j
 . subst d;rw[m7 hj]at a;cases a;exact b4h _ _
 . exact b.base i y i9 a c
theorem SI.skip{t:j9}{l:List Nat}{gd:List A8}{L:List p9}{j:Nat}{K O F:List p9}{ends:Bool}(h:SI t l gd L j K O F ends none 0)(hj:j<L.length)(hs:L[j].s∉gd):SI t l gd L (j+1) K O F ends none 0:=by
 refine{h with base:=fun i y hi a b=>?_};by_cases c:i=j
 . grind
 . exact h.base i y i9 a b
theorem SI.pop{t:j9}{l:List Nat}{gd:List A8}{L:List p9}{j:Nat}{K O F:List p9}{ends:Bool}{x:p9}(h:SI t l gd L j K (O++[x]) F ends none 0):SI t l gd L j K O F (ends||(decide (x.p=l.length)&&C0 t ((j4 t).getD x.x D7))) (some x) 0:=by
 have g:=h.opn x l5;have i:x∉O:=fun c=>by have:=(a5R.1 h.onod).2.2 x c x l5;exact this rfl
 refine⟨h.nodup,h.sound,h.base,fun y b=>h.opn y (a4G _ b),(a5R.1 h.onod).1,h.fnd,fun y b hr k d a f=>?_,fun y d=>?_,?_⟩
 . refine h.done y b hr (fun e=>?_) l5 a f
   grind
 . grind
 . rw[a1j,G4,decide_eq_true_eq,h.fin];constructor
   . grind
   . grind
theorem SI.a1p{t:j9}{l:List Nat}{gd:List A8}{L:List p9}{j m:Nat}{K O F:List p9}{ends:Bool}{x:p9}{A:List (Nat×Nat)}(c:A=G9 t x.x)(hm:m<A.length)(h:SI t l gd L j K O F ends (some x) m)(e:fits t l x.p A[m].1)(f:A8.mk (x.p+A7 t A[m].1) A[m].2∈gd):
 SI t l gd L j (Y0 K ⟨x.p+A7 t A[m].1,A[m].2,prt t A[m].1⟩) (a1n K O ⟨x.p+A7 t A[m].1,A[m].2,prt t A[m].1⟩) (a2O K F ⟨x.p+A7 t A[m].1,A[m].2,prt t A[m].1⟩) ends (some x) (m+1):=by
 obtain⟨c1,c2,c3,c4⟩:=h.curd x rfl;have g:Sp t l gd L ⟨x.p,x.x,[]⟩:=by have:=h.sound x c1;obtain⟨p,y,r⟩:=x;simp only at c2;subst c2;exact this
 have d:=h.add (.step g (c▸B7 hm) e f);refine{d with curd:=fun y i=>?_};cases i;obtain⟨d1,d2,d3,d4⟩:=d.curd x rfl;refine⟨d1,d2,d3,fun a b=>?_⟩;rw[←c,L3,m7 hm]at b;rcases I4.1 b with b|b
 . exact d4 a (by grind)
 . simp only[a9G,H5]at b;subst b;exact fun _ _=>b4h _ _
theorem SI.not{t:j9}{l:List Nat}{gd:List A8}{L:List p9}{j m:Nat}{K O F:List p9}{ends:Bool}{x:p9}{A:List (Nat×Nat)}(c:A=G9 t x.x)(hm:m<A.length)(h:SI t l gd L j K O F ends (some x) m)(d:fits t l x.p A[m].1→A8.mk (x.p+A7 t A[m].1) A[m].2∉gd):SI t l gd L j K O F ends (some x) (m+1):=by
 refine{h with curd:=fun y e=>?_};cases e;obtain⟨d1,d2,d3,d4⟩:=h.curd x rfl;refine⟨d1,d2,d3,fun a b=>?_⟩;rw[←c,L3,m7 hm]at b;rcases I4.1 b with b|b
 . exact d4 a (by grind)
 . simp only[a9G,H5]at b;subst b;exact fun h1 f=>absurd f (d h1)
theorem SI.next{t:j9}{l:List Nat}{gd:List A8}{L:List p9}{j:Nat}{K O F:List p9}{ends:Bool}{x:p9}(h:SI t l gd L j K O F ends (some x) (G9 t x.x).length):SI t l gd L j K O F ends none 0:=by
 obtain⟨d1,d2,d3,d4⟩:=h.curd x rfl;refine{h with done:=fun y b hr c _ a d=>?_,curd:=fun y b=>by cases b};by_cases f:y=x
 . grind
 . exact h.done y b hr c (fun e=>f (a0c e).symm) a d
structure SpR(t:j9)(l:List Nat)(gd:List A8)(L F:List p9)(ends:Bool):Prop where
 nodup:F.Nodup
 mem:∀h,h∈F↔Sp t l gd L h∧h.r≠ []
 fin:ends=true↔∃x,Sp t l gd L ⟨l.length,x,[]⟩∧C0 t ((j4 t).getD x D7)=true
theorem SI.end_{t:j9}{l:List Nat}{gd:List A8}{L:List p9}{K F:List p9}{ends:Bool}(h:SI t l gd L L.length K [] F ends none 0):SpR t l gd L F ends:=by
 have f:∀y,Sp t l gd L y→y∈K:=fun y g=>by
  induction g with
  |base h1 a=>
   obtain⟨i,hi,rfl⟩:=a1t h1;exact h.base i _ hi (m7 hi) a
  |step _ a j k m=>exact h.done _ m rfl l5 l5 _ a j k
 refine⟨?_,fun y=>?_,?_⟩
 . rw[h.fnd];exact h.nodup.filter _
 . rw[h.fnd,a7M];refine⟨fun e=>⟨h.sound y e.1,fun hr=>by have:=e.2;rw[hr]at this;simp at this⟩,fun e=>⟨f y e.1,?_⟩⟩
   grind
 . rw[h.fin];constructor
   . rintro⟨y,n,b,_,c,d⟩;obtain⟨p,x,r⟩:=y;simp only at b c d;subst b;subst c;exact⟨x,h.sound _ n,d⟩
   . grind
theorem a9d{α:Type} [DecidableEq α]:∀(l m:List α),l.Nodup→(∀x∈l,x∈m)→l.length≤m.length
 | [],m,_,_=>D6 _
 |a::l,m,h,hs=>by
  obtain⟨h1,b⟩:=a4E.1 h;have d:=hs a a3v;have:=a9d l (m.erase a) b fun x c=>(List.mem_erase_of_ne (fun e=>h1 (by grind))).2 (hs x (a5e _ c))
  grind
def b9Y(t:j9)(n:Nat):List p9:=(List.range (n+1)).flatMap fun p=>(List.range (j4 t).length).flatMap fun x=>(List.range t.rules.length).map fun k=>⟨p,x,prt t k⟩
theorem a8v{α:Type}(n c:Nat)(f:Nat→List α)(h:∀i,(f i).length=c):((List.range n).flatMap f).length=n*c:=by
 induction n with
 |zero=>simp
 |succ n a=>rw[a2q,List.flatMap_append,a0D,a];simp[h,Nat.succ_mul]
theorem c2M(t:j9)(n:Nat):(b9Y t n).length=(n+1)*((j4 t).length*t.rules.length):=
 a8v _ _ _ fun _=>a8v _ _ _ fun _=>by simp
theorem SI.bound{t:j9}(d:s8 t){l:List Nat}{gd:List A8}(b:RDs t l gd){L:List p9}{j m:Nat}{K O F:List p9}{ends:Bool}{cur:Option p9}(h:SI t l gd L j K O F ends cur m):K.length≤L.length+(l.length+1)*((j4 t).length*t.rules.length):=by
 rw[←c2M,←a0D];refine a9d _ _ h.nodup fun y e=>?_;cases h.sound y e with
 |base h1 _=>exact a4G _ h1
 |step _ f k g=>
  rename_i p x a hs;have c:=(b.snd _ _ g).1;have i:x<(j4 t).length:=by have:A8.mk p x∈gd:=hs.b9U;exact(b.snd _ _ this).1.1
  refine a7N _ ?_;unfold b9Y;refine a4a.2 ⟨p+A7 t a.1,a1v.2 (by have:=c.2.1;omega),a4a.2 ⟨a.2,a1v.2 c.1,E5.2 ⟨a.1,a1v.2 (a4t d i f).1,rfl⟩⟩⟩
def X82:u7:=
 ⟨92,[0,1,2,4,5,6,7,8,9,10,12,13,14,15,18,19,20,21,30,37,71,75,76,77,83],9,[(3,none),(4,none)],sq [.reg [F5 2 0 0,obj 3,oo 4],.reg [ofm 1,ow 5 (.alloc 2 [.lit (.map none)]),ok 1 1 0],.reg [ow 6 (.alloc 3 [.nils]),ow 7 (.alloc 4 [.nils])],.G5 6 (some 0) 18 3 (.G5 7 (some 0) 19 3 (sq [.reg [oq (.mkfn (.func 112) [] [.v 5,.v 6,.v 7]),ow 8 (.alloc 5 [.lit .nilFunc]),ok 1 1 0],kj 9,sq [ks 14 1 15 0 16 0,.block 0 (.loop (sq [kh 17 16 15,B6 17 0,.block 1 (sq [.reg [U9 3 14 16,L6 3 0,ocs 10 6 0 0,ok 3 2 1],.reg [E7 1 2,D9 0,ou 2 1,ob 1 2,od 0 10,L6 2 4,ofc 18 14 3 5],.cond (.v 18) (.reg [E7 1 8,oh 3 10,oq (.cally (.l 0) [.l 1])]) kc]),kd 16 1 16 0]))],.block 2 (.loop (sq [sq [.reg [E7 1 6,E0 0,odt 19 1 0],B6 19 2],.block 3 (sq [.reg [E7 1 6,E7 1 6,E0 1,obh 2 1,oj 3 0 3,L6 3 4,ocs 11 7 0 0,ok 3 6 5],.reg [E7 1 6,E7 1 6,E0 1,obh 2 1,ocw 3 0 3,M1 1 6 4],sq [.reg [od 0 11,ou 0 0,ob 1 1,E7 1 2,D9 3,ou 1 4,ob 1 5,E0 6,ocj 2 7,os 8,ocg 1 2 9,obk 10 9,obc 0 11 9,oe 1 12 9,obk 13 9,obc 1 14 9,oe 1 15 9,om 0 11 9,obc 1 17 9,oe 1 18 9,oas 1 16 19 9,oe 1 20 9,P3 20 9 21],.cond (.v 20) (kz 9) kc],.reg [E7 1 2,od 0 11,L6 2 1,odx 21 80 0 2],.block 4 (.rfor (.v 21) [some 22,some 23] (sq [.reg [ocf 12 22],.reg [ody 13 8 0 0,oq (.store 2 (.l 0) (.v 23))]]) (.block 5 (sq [.reg [E7 1 2,D9 0,ou 2 1,ob 1 2,oh 2 13,ofc 24 14 3 4],.cond (.v 24) (.reg [E7 1 8,oh 2 13,oa 12,oq (.build [.int .i64 0,.int .i64 0,.str ⟨#[]⟩] [(0,2,.l 1),(2,1,.l 2)]),oq (.cally (.l 0) [.l 3])]) kc])))])])),.reg [E7 1 7,oce 113 0,oa 9,oc 3 1,oc 4 2],ko]))]⟩
theorem c82:C4 82 X82:=C6
abbrev HQ(h:p9):PV:=.agg [IN h.p,IN h.x,St h.r]
theorem c4o(a b:p9):a1g (HQ a) (HQ b)=some (decide (a=b)):=by
 cases a;cases b;have hb:∀r q:By,((ByteArray.mk ⟨r⟩==ByteArray.mk ⟨q⟩))=decide (r=q):=fun r q=>by rw[show(ByteArray.mk ⟨r⟩==ByteArray.mk ⟨q⟩)=((⟨r⟩:Array UInt8)==⟨q⟩)from rfl,Bool.eq_iff_iff];simp
 simp[a1g,X1,a0X,Bool.and_assoc,hb]
@[simp] theorem d1f(a b:Nat)(r:By)(L:List p9):a0t (.agg [.int .i64 a,.int .i64 b,.str ⟨⟨r⟩⟩]) (L.map HQ) 0=some (L.idxOf? ⟨a,b,r⟩):=by have:=a7C c4o ⟨a,b,r⟩ L 0;simpa using this
abbrev TH(h:p9):PV:=B true
@[simp] theorem d2i(l:List p9):List.map (B4∘HQ) l=l.map HQ:=K3 fun _ _=>rfl
def a3K(E:List p9)(n:Nat)(h:p9):List p9:=E.take n++h::E.drop (n+1)
noncomputable abbrev HS(t:j9)(l:List Nat)(gd:List A8)(K E:List p9)(n:Nat)(F:List p9)(R6 R7 R8 R10 R11 R12 R13:Row)(g14 g16 v18 v19:Nat):l7:=
 [(1,.var [RD t l gd]),(1,.mp false (K.map HQ) (K.map TH)),(1,.var [.mapv 1 1]),(1,.var [.own 18 1 E.length 3 0 n]),(1,.var [.own 19 1 F.length 3 0 F.length]),(1,.var [.fn (.func 112) [] [.ptr 2 1 0,.ptr 3 1 0,.ptr 4 1 0]]),
  R6,R7,R8,dd,R10,R11,R12,R13,(g14,.dead),dd,(g16,.dead),dd,(1,.arr 3 v18 false (E.map HQ)),(1,.arr 3 v19 false (F.map HQ))]
theorem c7I(t:j9)(l:List Nat)(gd:List A8)(K E:List p9)(n:Nat)(F:List p9)(R6 R7 R8 R10 R11 R12 R13:Row)(g14 g16 v18 v19:Nat):
 FI Tryz.prog (.fn (.func 113) [] []) [.own 19 1 F.length 3 0 F.length] (HS t l gd K E n F R6 R7 R8 R10 R11 R12 R13 g14 g16 v18 v19) (.own 19 1 F.length 3 0 F.length) []:=by
 refine a3n mixed (X:=a7x) c113 (by rfl) (by simp[a7x]) l5 fun Q a b=>?_;simp[a7x,HS];refine a _ _ ?_;simp[M6,a7x]
theorem c2n(t:j9)(l:List Nat)(gd:List A8)(K E:List p9)(n:Nat)(F:List p9)(R6 R7 R8 R10 R11 R12 R13:Row)(g14 g16 v18 v19 p x:Nat)(r:By)(i:Nat)(hi:K.idxOf? (p9.mk p x r)=some i)(a:i<K.length):
 FI Tryz.prog (.fn (.func 112) [] [.ptr 2 1 0,.ptr 3 1 0,.ptr 4 1 0]) [.agg [IN p,IN x,St r]] (HS t l gd K E n F R6 R7 R8 R10 R11 R12 R13 g14 g16 v18 v19) (.tup []) [(13,(R13.1+1,.var [IN p,IN x,St r]))]:=by
 refine a3n mixed (X:=a1P) b3Y (by rfl) (by simp[a1P]) l5 fun Q b c=>?_;simp[a1P,HS,hi,a];refine b _ _ ?_;simp[M6,a1P]
theorem c3H(t:j9)(l:List Nat)(gd:List A8)(K E:List p9)(n:Nat)(F:List p9)(R6 R7 R8 R10 R11 R12 R13:Row)(g14 g16 v18 v19 p x:Nat)(hi:K.idxOf? (p9.mk p x [])=none)(j:n≤E.length)(hb:(n+1)*32≤140737488355328):
 ∃r ws,(∃k,r=.tup []∧ws=[(1,(1,.mp false ((K++[p9.mk p x []]).map HQ) ((K++[p9.mk p x []]).map TH))),(3,(1,.var [.own 18 1 (a3K E n ⟨p,x,[]⟩).length 3 0 (n+1)])),(13,(R13.1+1,.var [IN p,IN x,St []])),(14,(g14+1,.dead)),(18,(1,.arr 3 k false ((a3K E n ⟨p,x,[]⟩).map HQ)))])∧
 FI Tryz.prog (.fn (.func 112) [] [.ptr 2 1 0,.ptr 3 1 0,.ptr 4 1 0]) [.agg [IN p,IN x,St []]] (HS t l gd K E n F R6 R7 R8 R10 R11 R12 R13 g14 g16 v18 v19) r ws:=by
 obtain⟨a,m⟩:=p7 (K++[p9.mk p x []]);rw[←m];have f:K.map HQ++[.agg [IN p,IN x,St []]]=a.map HQ:=by grind
 have g:K.map TH++[B true]=a.map TH:=by grind
 obtain⟨E2,b⟩:=p7 (a3K E n ⟨p,x,[]⟩);rw[←b];refine a4x mixed (X:=a1P) b3Y (by rfl) (by simp[a1P]) l5 (by kernel_rfl) fun Q o h=>?_;by_cases d:n=E.length
 . have e:E.map HQ++[.agg [IN p,IN x,St []]]=E2.map HQ:=(by rw[b];unfold a3K;rw[d];simp);have c:E.length+1=E2.length:=(by rw[b];unfold a3K;rw[d];simp);subst d;have i:=hb;rw[c]at i;simp[a1P,HS,hi,f,g,i,e,c];refine h _ [(1,(1,.mp false (a.map HQ) (a.map TH))),(3,(1,.var [.own 18 1 E2.length 3 0 (E.length+1)])),(13,(R13.1+1,.var [IN p,IN x,St []])),(14,(g14+1,.dead)),(18,(1,.arr 3 v18 false (E2.map HQ)))] _ _ ⟨v18,rfl,rfl⟩ ?_;simp[M6,a1P,c]
 . have e:(E.map HQ).take n++ .agg [IN p,IN x,St []]::(E.map HQ).drop (n+1)=E2.map HQ:=(by rw[b];unfold a3K;simp[a1X,a1J]);have c:n+(E.length-(n+1)+1)=E2.length:=(by rw[b];unfold a3K;simp;omega);simp[a1P,HS,hi,f,g,j,hb,d,e,c];refine h _ [(1,(1,.mp false (a.map HQ) (a.map TH))),(3,(1,.var [.own 18 1 E2.length 3 0 (n+1)])),(13,(R13.1+1,.var [IN p,IN x,St []])),(14,(g14+1,.dead)),(18,(1,.arr 3 (v18+1) false (E2.map HQ)))] _ _ ⟨v18+1,rfl,rfl⟩ ?_;simp[M6,a1P]
theorem c7v(t:j9)(l:List Nat)(gd:List A8)(K E:List p9)(n:Nat)(F:List p9)(R6 R7 R8 R10 R11 R12 R13:Row)(g14 g16 v18 v19 p x:Nat)(r:By)(hr:r≠ [])(hi:K.idxOf? (p9.mk p x r)=none)(hb:(F.length+1)*32≤140737488355328):
 FI Tryz.prog (.fn (.func 112) [] [.ptr 2 1 0,.ptr 3 1 0,.ptr 4 1 0]) [.agg [IN p,IN x,St r]] (HS t l gd K E n F R6 R7 R8 R10 R11 R12 R13 g14 g16 v18 v19) (.tup [])
  [(1,(1,.mp false ((K++[p9.mk p x r]).map HQ) ((K++[p9.mk p x r]).map TH))),(4,(1,.var [.own 19 1 (F++[p9.mk p x r]).length 3 0 (F++[p9.mk p x r]).length])),(13,(R13.1+1,.var [IN p,IN x,St r])),(16,(g16+1,.dead)),(19,(1,.arr 3 v19 false ((F++[p9.mk p x r]).map HQ)))]:=by
 obtain⟨a,d⟩:=p7 (K++[p9.mk p x r]);obtain⟨F2,b⟩:=p7 (F++[p9.mk p x r]);rw[←d,←b];have e:K.map HQ++[.agg [IN p,IN x,St r]]=a.map HQ:=by grind
 have f:K.map TH++[B true]=a.map TH:=by grind
 have g:F.map HQ++[.agg [IN p,IN x,St r]]=F2.map HQ:=by grind
 have c:F.length+1=F2.length:=by rw[b];simp
 rw[c]at hb;refine a3n mixed (X:=a1P) b3Y (by rfl) (by simp[a1P]) l5 fun Q i h=>?_;simp[a1P,HS,hi,e,f,hb,g,c,hr];refine h _ _ ?_;simp[M6,a1P]
theorem b7P(t:j9)(l:List Nat)(gd:List A8)(K E:List p9)(n:Nat)(F:List p9)(R6 R7 R8 R10 R11 R12 R13:Row)(g14 g16 v18 v19:Nat)(h:p9)(c:n≤E.length)(f:E.length≤K.length)(hb:(n+1)*32≤140737488355328)(g:(F.length+1)*32≤140737488355328)(q:∀x∈E.take n,x∈K):
 ∃E' d R13' j k e ws,E'.take d=a1n K (E.take n) h∧d≤E'.length∧E'.length≤(Y0 K h).length∧d+2*K.length≤n+2*(Y0 K h).length∧
  FI Tryz.prog (.fn (.func 112) [] [.ptr 2 1 0,.ptr 3 1 0,.ptr 4 1 0]) [.agg [IN h.p,IN h.x,St h.r]] (HS t l gd K E n F R6 R7 R8 R10 R11 R12 R13 g14 g16 v18 v19) (.tup []) ws∧
  p8 (HS t l gd K E n F R6 R7 R8 R10 R11 R12 R13 g14 g16 v18 v19) ws=HS t l gd (Y0 K h) E' d (a2O K F h) R6 R7 R8 R10 R11 R12 R13' j k e v19:=by
 obtain⟨p,x,r⟩:=h;by_cases a:p9.mk p x r∈K
 . obtain⟨i,hi⟩:∃i,K.idxOf? (p9.mk p x r)=some i:=by
    cases m:K.idxOf? (p9.mk p x r)with
    |none=>exact absurd a (a3a.1 m)
    |some n=>exact⟨n,rfl⟩
   have o:i<K.length:=by rw[List.idxOf?,a1Y]at hi;exact hi.1
   have b:=c2n t l gd K E n F R6 R7 R8 R10 R11 R12 R13 g14 g16 v18 v19 p x r i hi o;unfold Y0 a1n a2O;rw[if_pos a,if_pos a,if_pos a];exact⟨E,n,_,g14,g16,v18,_,rfl,c,f,m9 _,b,rfl⟩
 . have hi:=a3a.2 a;unfold Y0 a1n a2O;rw[if_neg a,if_neg a,if_neg a];by_cases hr:r=[]
   . subst hr;obtain⟨r,ws,⟨e,rfl,rfl⟩,b⟩:=c3H t l gd K E n F R6 R7 R8 R10 R11 R12 R13 g14 g16 v18 v19 p x hi c hb;refine⟨a3K E n ⟨p,x,[]⟩,n+1,_,g14+1,g16,e,_,?_,?_,?_,?_,b,rfl⟩
     . rw[if_pos rfl];unfold a3K;rw[List.take_append,a1W,Nat.min_eq_left c,List.take_take,Nat.min_eq_right i9,show n+1-n=1 by omega];rfl
     . unfold a3K;simp;omega
     . unfold a3K;simp;omega
     . simp;omega
   . have b:=c7v t l gd K E n F R6 R7 R8 R10 R11 R12 R13 g14 g16 v18 v19 p x r hr hi g;rw[if_neg hr,if_neg hr];exact⟨E,n,_,g14,g16+1,v18,_,rfl,c,I2,I2,b,rfl⟩
section
variable{t:j9}{l:List Nat}{gd:List A8}
abbrev H3:=List p9×List p9×List p9
def a4U(st:H3)(h:p9):H3:=(Y0 st.1 h,a1n st.1 st.2.1 h,a2O st.1 st.2.2 h)
def inS(gd:List A8)(st:H3)(h:p9):H3:=if h.s∈gd then a4U st h else st
def arS(t:j9)(l:List Nat)(gd:List A8)(x:p9)(st:H3)(a:Nat×Nat):H3:=if fits t l x.p a.1∧A8.mk (x.p+A7 t a.1) a.2∈gd then a4U st ⟨x.p+A7 t a.1,a.2,prt t a.1⟩else st
noncomputable def stO(t:j9)(l:List Nat)(gd:List A8)(s:H3×Bool):H3×Bool:=match s.1.2.1.getLast? with
 |none=>s
 |some x=>((G9 t x.x).foldl (arS t l gd x) (s.1.1,s.1.2.1.dropLast,s.1.2.2),s.2||(decide (x.p=l.length)&&C0 t ((j4 t).getD x.x D7)))
noncomputable def rnO(t:j9)(l:List Nat)(gd:List A8):Nat→H3×Bool→H3×Bool
 |0,s=>s
 |n+1,s=>if s.1.2.1=[]then s else rnO t l gd n (stO t l gd s)
def a0I(t:j9)(l:List Nat)(L:List p9):Nat:=L.length+(l.length+1)*((j4 t).length*t.rules.length)
noncomputable def Z5(t:j9)(l:List Nat)(gd:List A8)(L:List p9):H3×Bool:=rnO t l gd (2*a0I t l L) (L.foldl (inS gd) ([],[],[]),false)
abbrev SI'(t:j9)(l:List Nat)(gd:List A8)(L:List p9)(j:Nat)(s:H3×Bool)(cur:Option p9)(m:Nat):Prop:=SI t l gd L j s.1.1 s.1.2.1 s.1.2.2 s.2 cur m
theorem a5x{α β:Type}(f:β→α→β)(b:β){l:List α}{j:Nat}(hj:j<l.length):(l.take (j+1)).foldl f b=f ((l.take j).foldl f b) l[j]:=by rw[L3,m7 hj,b1J];rfl
theorem b0C(t:j9)(l:List Nat)(gd:List A8)(L:List p9):∀j,j≤L.length→SI' t l gd L j ((L.take j).foldl (inS gd) ([],[],[]),false) none 0
 |0,_=>SI.start t l gd L
 |j+1,h=>by
  have a:=b0C t l gd L j i9;rw[a5x _ _ (show j<L.length by omega)];unfold inS;split
  . rename_i hs;exact a.input i9 hs
  . rename_i hs;exact a.skip i9 hs
theorem b4l{t:j9}{l:List Nat}{gd:List A8}{L:List p9}{x:p9}{st:H3}{ends:Bool}(h:SI' t l gd L L.length (st,ends) (some x) 0):∀k,k≤(G9 t x.x).length→SI' t l gd L L.length (((G9 t x.x).take k).foldl (arS t l gd x) st,ends) (some x) k
 |0,_=>h
 |k+1,c=>by
  have a:=b4l h k i9;rw[a5x _ _ (show k<(G9 t x.x).length by omega)];unfold arS;split
  . rename_i hs;exact a.a1p rfl i9 hs.1 hs.2
  . rename_i hs;exact a.not rfl i9 fun h1 b=>hs ⟨h1,b⟩
theorem b6k{α:Type}{l:List α}{x:α}(h:l.getLast?=some x):l=l.dropLast++[x]:=by obtain⟨y,a⟩:=List.getLast?_eq_some_iff.1 h;rw[a];simp
theorem b5H{L:List p9}{s:H3×Bool}(h:SI' t l gd L L.length s none 0):SI' t l gd L L.length (stO t l gd s) none 0:=by
 unfold stO;cases b:s.1.2.1.getLast? with
 |none=>exact h
 |some x=>
  have h1:SI t l gd L L.length s.1.1 (s.1.2.1.dropLast++[x]) s.1.2.2 s.2 none 0:=by rw[←b6k b];exact h
  have a:=b4l (st:=(s.1.1,s.1.2.1.dropLast,s.1.2.2)) h1.pop _ (m9 _);rw[M4]at a;exact a.next
def msO(T:Nat)(K O:List p9):Nat:=2*(T-K.length)+O.length
theorem d0n{T:Nat}(st:H3)(h:p9)(a:(a4U st h).1.length≤T):msO T (a4U st h).1 (a4U st h).2.1≤msO T st.1 st.2.1∧st.1.length≤(a4U st h).1.length:=by
 unfold a4U Y0 a1n msO at*
 grind
theorem c6n(t:j9)(l:List Nat)(gd:List A8)(x:p9)(st:H3)(a:Nat×Nat):st.1.length≤(arS t l gd x st a).1.length:=by
 unfold arS;split
 . unfold a4U Y0;simp only;split<;>simp
 . exact m9 _
theorem b5a{t:j9}{l:List Nat}{gd:List A8}{x:p9}{T:Nat}:∀(A:List (Nat×Nat)) (st:H3),(A.foldl (arS t l gd x) st).1.length≤T→msO T (A.foldl (arS t l gd x) st).1 (A.foldl (arS t l gd x) st).2.1≤msO T st.1 st.2.1∧st.1.length≤(A.foldl (arS t l gd x) st).1.length
 | [],st,_=>⟨m9 _,m9 _⟩
 |a::A,st,h=>by
  rw[a3s]at h⊢;obtain⟨h1,b⟩:=b5a A _ h;have c:=c6n t l gd x st a;refine⟨V1 h1 ?_,i9⟩;unfold arS at h b c⊢;split
  . rename_i hs;rw[if_pos hs]at b h;exact(d0n st _ i9).1
  . exact m9 _
theorem c0n(b:s8 t)(c:RDs t l gd){L:List p9}{s:H3×Bool}(h:SI' t l gd L L.length s none 0)(d:s.1.2.1≠ []):msO (a0I t l L) (stO t l gd s).1.1 (stO t l gd s).1.2.1<msO (a0I t l L) s.1.1 s.1.2.1:=by
 have hb:=(b5H h).bound b c;obtain⟨x,a⟩:∃x,s.1.2.1.getLast?=some x:=by
  cases a:s.1.2.1.getLast? with
  |none=>exact absurd (List.getLast?_eq_none_iff.1 a) d
  |some x=>exact⟨x,rfl⟩
 have e:=congrArg List.length (b6k a);simp only[a0D,b1M]at e;unfold stO at hb⊢;rw[a]at hb⊢;have:=(b5a (t:=t) (l:=l) (gd:=gd) (x:=x) (T:=a0I t l L) (G9 t x.x) (s.1.1,s.1.2.1.dropLast,s.1.2.2) hb).1;refine Nat.lt_of_le_of_lt this ?_;unfold msO;simp only;omega
theorem c5Y{s:H3×Bool}(h:s.1.2.1=[]):∀n,rnO t l gd n s=s
 |0=>rfl
 |n+1=>by unfold rnO;rw[if_pos h]
theorem b9E{t:j9}(b:s8 t){l:List Nat}{gd:List A8}(c:RDs t l gd){L:List p9}:∀(n:Nat) (s:H3×Bool),SI' t l gd L L.length s none 0→msO (a0I t l L) s.1.1 s.1.2.1≤n→SI' t l gd L L.length (rnO t l gd n s) none 0∧(rnO t l gd n s).1.2.1=[]
 |0,s,h,hm=>by
  refine⟨h,?_⟩;unfold msO at hm;exact a0V.1 (by show s.1.2.1.length=0;omega)
 |n+1,s,h,hm=>by
  unfold rnO;by_cases a:s.1.2.1=[]
  . rw[if_pos a];exact⟨h,a⟩
  . rw[if_neg a];exact b9E b c n _ (b5H h) (by have:=c0n b c h a;omega)
theorem b7C(b:s8 t)(c:RDs t l gd)(L:List p9):msO (a0I t l L) (L.foldl (inS gd) ([],[],[])).1 (L.foldl (inS gd) ([],[],[])).2.1≤2*a0I t l L:=by
 have key:∀(M:List p9) (st:H3),st.2.1.length≤st.1.length→(M.foldl (inS gd) st).2.1.length≤(M.foldl (inS gd) st).1.length:=by
  intro M
  induction M with
  |nil=>intro st h;exact h
  |cons h M d=>
   intro st hs;rw[a3s];refine d _ ?_;unfold inS;split
   . unfold a4U Y0 a1n
     grind
   . exact hs
 have h1:=b0C t l gd L L.length (m9 _);rw[M4]at h1;have a:=h1.bound b c;have e:=key L ([],[],[]) l5;unfold msO;simp only at a;show 2*(a0I t l L-_)+_≤_;have:(L.foldl (inS gd) ([],[],[])).1.length≤a0I t l L:=a;omega
theorem a8N(a:s8 t)(b:RDs t l gd)(L:List p9):SpR t l gd L (Z5 t l gd L).1.2.2 (Z5 t l gd L).2:=by
 have h1:=b0C t l gd L L.length (m9 _);rw[M4]at h1;obtain⟨c,d⟩:=b9E a b (2*a0I t l L) _ h1 (b7C a b L);have f:SI t l gd L L.length (Z5 t l gd L).1.1 [] (Z5 t l gd L).1.2.2 (Z5 t l gd L).2 none 0:=by have e:(Z5 t l gd L).1.2.1=[]:=d;have:=c;unfold SI' at this;rw[show rnO t l gd (2*a0I t l L) (L.foldl (inS gd) ([],[],[]),false)=Z5 t l gd L from rfl,e]at this;exact this
 exact f.end_
end
theorem c2r(t:j9)(l:List Nat)(gd:List A8)(K E:List p9)(n:Nat)(F:List p9)(R6 R7 R8 R10 R11 R12 R13:Row)(g14 g16 v18 v19 i x:Nat):FI Tryz.prog (.fn (.func 80) [] []) [RD t l gd,.agg [IN i,IN x]] (HS t l gd K E n F R6 R7 R8 R10 R11 R12 R13 g14 g16 v18 v19)
 (.fn (.func 111) [] [.ptr 10 (R10.1+1) 0,.ptr 11 (R11.1+1) 0]) [(10,(R10.1+1,.var [RD t l gd])),(11,(R11.1+1,.var [IN i,IN x]))]:=by
 refine a3n mixed (X:=X80) c80 (by rfl) (by simp[X80]) l5 fun Q a b=>?_;simp[X80,HS];refine a _ _ ?_;simp[X80,M6]
theorem b5S{α:Type} [DecidableEq α]{L:List α}{x:α}{n:Nat}(h:L.idxOf? x=some n):x∈L∧n<L.length:=by
 constructor
 . refine Decidable.byContradiction fun hm=>?_;rw[a3a.2 hm]at h;cases h
 . rw[List.idxOf?,a1Y]at h;exact h.1
theorem b2c(t:j9)(r:s8 t)(l:List Nat)(bc:l.length≤1100000000)(gd:List A8)(I:RDs t l gd)(L:List p9)(ao:a0I t l L≤4000000000000):
 F0 82 [3,0] [RD t l gd,.slc (L.map HQ)] (.tup [.uslc ((Z5 t l gd L).1.2.2.map HQ),B (Z5 t l gd L).2]):=by
 have bd:=a0G r;have ap:(N6 t).length=(j4 t).length:=by simp[N6]
 have aG:(gL (E6 t) t).length=(j4 t).length:=by simp[gL]
 have V:∀{j m:Nat} {K O F:List p9} {ends:Bool} {cur:Option p9},SI t l gd L j K O F ends cur m→K.length≤4000000000000∧F.length≤K.length:=fun h=>by have h1:=h.bound r I;refine⟨V1 h1 ao,?_⟩;rw[h.fnd];exact List.length_filter_le _ _
 have be:L.length≤4000000000000:=by unfold a0I at ao;omega
 refine E4 c82 20 (by simp[X82]) fun Q aH aq=>?_;simp[X82];refine E3 (fun(y:Nat×List p9×List p9×Nat×List p9×Row×Row×Nat×Nat×Nat×PV×PV×PV) vs h=>y.1≤L.length∧(y.2.1,y.2.2.1.take y.2.2.2.1,y.2.2.2.2.1)=(L.take y.1).foldl (inS gd) ([],[],[])∧y.2.2.2.1≤y.2.2.1.length∧y.2.2.1.length≤y.2.1.length∧
  vs=[RD t l gd,.slc (L.map HQ),.ptr 0 1 0,.nils,B false,.ptr 2 1 0,.ptr 3 1 0,.ptr 4 1 0,.ptr 5 1 0,B false,y.2.2.2.2.2.2.2.2.2.2.1,.uu,.uu,.uu,.slc (L.map HQ),IN L.length,IN y.1,y.2.2.2.2.2.2.2.2.2.2.2.1,y.2.2.2.2.2.2.2.2.2.2.2.2,.uu,.uu,.uu,.uu,.uu,.uu]∧
  h=HS t l gd y.2.1 y.2.2.1 y.2.2.2.1 y.2.2.2.2.1 y.2.2.2.2.2.1 dd dd dd dd dd y.2.2.2.2.2.2.1 y.2.2.2.2.2.2.2.1 y.2.2.2.2.2.2.2.2.1 y.2.2.2.2.2.2.2.2.2.1 0) (fun y=>L.length-y.1)
  (0,[],[],0,[],dd,dd,0,0,0,.uu,.uu,.uu) ⟨D6 _,rfl,m9 _,m9 _,rfl,rfl⟩ ?_
 rintro⟨j,K,E,n,F,R6,R13,g14,g16,v18,w10,w17,w18⟩ vs h ⟨ar,u,J,M,rfl,rfl⟩ Q2 au aI bf;dsimp only at ar u J M;have P:=b0C t l gd L j ar;rw[←u]at P;obtain⟨av,aw⟩:=V P;dsimp only at av aw;by_cases hj:j<L.length
 . have ax:=wk1 j i9;have f:=a5x (inS gd) ([],[],[]) hj;rw[←u]at f;obtain⟨x,g⟩:=p7 (L[j]);rw[←g]at f;cases hid:gd.idxOf? x.s with
   |some m=>
    obtain⟨W,Y⟩:=b5S hid;have e:inS gd (K,E.take n,F) x=(Y0 K x,a1n K (E.take n) x,a2O K F x):=(by unfold inS;rw[if_pos W];rfl);rw[e]at f;obtain⟨E',b,R13',aJ,aK,aL,ws,d,z2,z3,z4,z5,aM⟩:=b7P t l gd K E n F (R6.1+1,.var [IN x.p,IN x.x,St x.r]) dd dd dd dd dd R13 g14 g16 v18 0 x J M i9 i9 (fun y Z=>(P.opn y Z).1);simp[HS,hj,←g,hid,Y];refine a4w z5 aM rfl ?_;simp[HS,ax];exact au (j+1,Y0 K x,E',b,a2O K F x,_,R13',aJ,aK,aL,_,_,_) _ _ s5 ⟨s5,by dsimp only;rw[d];exact f.symm,z2,z3,rfl,rfl⟩
   |none=>
    have e:inS gd (K,E.take n,F) x=(K,E.take n,F):=(by unfold inS;rw[if_neg (a3a.1 hid)]);rw[e]at f;simp[HS,hj,←g,hid,ax];exact au (j+1,K,E,n,F,_,R13,g14,g16,v18,_,_,_) _ _ s5 ⟨s5,f.symm,J,M,rfl,rfl⟩
 . obtain rfl:j=L.length:=i9;rw[M4]at u;simp[HS];refine aI _ _ _ ?_;simp;have aN:Z5 t l gd L=rnO t l gd (2*a0I t l L) ((K,E.take n,F),false):=(by unfold Z5;rw[←u]);have aO:msO (a0I t l L) K (E.take n)≤2*a0I t l L:=by
    have:=b7C r I L;rw[←u]at this;exact this
   refine E3 (fun(y:Nat×List p9×List p9×Nat×List p9×Bool×Row×Row×Row×Row×Row×Row×Nat×Nat×Nat×PV×PV×PV×PV) vs h=>Z5 t l gd L=rnO t l gd y.1 ((y.2.1,y.2.2.1.take y.2.2.2.1,y.2.2.2.2.1),y.2.2.2.2.2.1)∧msO (a0I t l L) y.2.1 (y.2.2.1.take y.2.2.2.1)≤y.1∧SI t l gd L L.length y.2.1 (y.2.2.1.take y.2.2.2.1) y.2.2.2.2.1 y.2.2.2.2.2.1 none 0∧y.2.2.2.1≤y.2.2.1.length∧y.2.2.1.length≤y.2.1.length∧
    vs=[RD t l gd,.slc (L.map HQ),.ptr 0 1 0,.nils,B false,.ptr 2 1 0,.ptr 3 1 0,.ptr 4 1 0,.ptr 5 1 0,B y.2.2.2.2.2.1,w10,y.2.2.2.2.2.2.2.2.2.2.2.2.2.2.2.1,.uu,.uu,.slc (L.map HQ),IN L.length,IN L.length,.bool false,w18,y.2.2.2.2.2.2.2.2.2.2.2.2.2.2.2.2.1,y.2.2.2.2.2.2.2.2.2.2.2.2.2.2.2.2.2.1,y.2.2.2.2.2.2.2.2.2.2.2.2.2.2.2.2.2.2,.uu,.uu,.uu]∧
    h=HS t l gd y.2.1 y.2.2.1 y.2.2.2.1 y.2.2.2.2.1 R6 y.2.2.2.2.2.2.1 y.2.2.2.2.2.2.2.1 y.2.2.2.2.2.2.2.2.1 y.2.2.2.2.2.2.2.2.2.1 y.2.2.2.2.2.2.2.2.2.2.1 y.2.2.2.2.2.2.2.2.2.2.2.1 y.2.2.2.2.2.2.2.2.2.2.2.2.1 y.2.2.2.2.2.2.2.2.2.2.2.2.2.1 y.2.2.2.2.2.2.2.2.2.2.2.2.2.2.1 0) (fun y=>y.1)
    (2*a0I t l L,K,E,n,F,false,dd,dd,dd,dd,dd,_,_,_,_,.uu,.uu,.uu,.uu) ⟨aN,aO,P,J,M,rfl,rfl⟩ ?_
   rintro⟨m,K,E,n,F,ends,R7,R8,R10,R11,R12,R13,g14,g16,v18,w11,w19,w20,w21⟩ vs h ⟨d,z2,z3,z4,z5,rfl,rfl⟩ Q3 aP aQ bg;dsimp only at d z2 z3 z4 z5;obtain⟨av,aw⟩:=V z3;cases n with
   |zero=>
    rw[List.take_zero,c5Y rfl]at d;simp[HS];refine aQ _ _ _ ?_;simp;refine a2H (c7I t l gd K E 0 F R6 R7 R8 R10 R11 R12 R13 g14 g16 v18 0) ?_;simp;refine aH _ _ ?_;simp[X82,d]
   |succ n=>
    generalize aq:n+1=N at d z2 z3 z4⊢;have aa:IntKind.i64.wrap ((N:Int)-1)=(n:Int):=(by rw[wrap_ok i9 i9];omega);have ab:0<N:=i9;have ac:n<N:=i9;have ad:n≤N:=i9;have R:n<E.length:=i9;obtain⟨x,g⟩:=p7 (E[n]);have aR:E.take N=E.take n++[x]:=(by rw[←aq,L3,m7 R,g];rfl);rw[aR]at d z2 z3;have aS:=z3.opn x l5;have aT:=(z3.sound x aS.1).b9U;have ay:=(I.snd _ _ aT).1;have w:=ay.1;have aU:x.p≤l.length:=ay.2.1;have f:(j4 t).getD x.x D7=(j4 t)[x.x]:=(by rw[u9,m7 w];rfl);have az:(N6 t)[x.x]'i9=C0 t (j4 t)[x.x]:=(by simp only[N6,a0b]);have aA:=z3.pop;obtain⟨A,o⟩:=p7 (G9 t x.x);have aV:(gL (E6 t) t)[x.x]'i9=A:=(by rw[o];unfold G9;rw[u9,m7 i9];rfl);have bh:A.length≤64:=o▸a6A r x.x;have aW:∀a∈A,a.1<t.rules.length∧a.2<(j4 t).length∧1≤A7 t a.1∧A7 t a.1≤4:=fun a aX=>a4t r w (o▸aX);obtain⟨v,S⟩:∃v,v=(ends||(decide (x.p=l.length)&&C0 t ((j4 t).getD x.x D7))):=⟨_,rfl⟩
    rw[←S]at aA;have ae:stO t l gd ((K,E.take n++[x],F),ends)=(A.foldl (arS t l gd x) (K,E.take n,F),v):=by unfold stO;simp only[List.getLast?_append,List.getLast?_singleton,Option.some_or];rw[List.dropLast_concat,←o,S]
    have bi:0<m:=(by unfold msO at z2;simp at z2;omega);obtain⟨T,aY⟩:∃T,m=T+1:=⟨m-1,i9⟩
    have af:=c0n r I (s:=((K,E.take n++[x],F),ends)) z3 l5;rw[ae]at af;have aB:rnO t l gd m ((K,E.take n++[x],F),ends)=rnO t l gd T (A.foldl (arS t l gd x) (K,E.take n,F),v):=by
     rw[aY]
     conv=>lhs;unfold rnO
     rw[if_neg l5,ae]
    rw[aB]at d;have aZ:v=true∧(x.p=l.length∧C0 t (j4 t)[x.x]=true)∨v=ends∧¬(x.p=l.length∧C0 t (j4 t)[x.x]=true):=by
     rw[S,f];by_cases h1:x.p=l.length
     . cases aC:C0 t (j4 t)[x.x]<;>simp[h1]
     . simp[h1]
    clear S ae aB;rcases aZ with⟨rfl,a0,ag⟩|⟨rfl,a1⟩
    case' inl=>
     simp[HS,aa,ab,ac,ad,R,←g,eq_true a0,ap,w,az,ag]
    case' inr=>
     by_cases ah:x.p=l.length
     case' pos=>
      have ag:C0 t (j4 t)[x.x]=false:=by
       cases aC:C0 t (j4 t)[x.x]with
       |false=>rfl
       |true=>exact absurd ⟨ah,aC⟩ a1
      simp[HS,aa,ab,ac,ad,R,←g,eq_true ah,ap,w,az,ag]
     case' neg=>
      simp[HS,aa,ab,ac,ad,R,←g,eq_false ah]
    all_goals
     refine a2H (c2r t l gd K E n F R6 (R7.1+1,.var [IN x.p,IN x.x,St x.r]) R8 R10 R11 R12 R13 g14 g16 v18 0 x.p x.x) ?_;simp[HS];refine b2o mixed (X:=a3A) b2U rfl (by rfl) (by simp[a3A]) l5 ?_;intro a2 Q4 bj a3;simp[a3A,aG,w,aV];refine E3 (fun(y:Nat×List p9×List p9×Nat×List p9×Row×Row×Row×Nat×Nat×Nat×PV×PV×PV) vs h=>y.1≤A.length∧(y.2.1,y.2.2.1.take y.2.2.2.1,y.2.2.2.2.1)=(A.take y.1).foldl (arS t l gd x) (K,E.take n,F)∧y.2.2.2.1≤y.2.2.1.length∧y.2.2.1.length≤y.2.1.length∧
      vs=[.fn (.yield a2) [] [],.ptr 10 (R10.1+1) 0,.ptr 11 (R11.1+1) 0,y.2.2.2.2.2.2.2.2.2.2.2.1,SG t A,IN A.length,IN y.1,y.2.2.2.2.2.2.2.2.2.2.2.2.1,y.2.2.2.2.2.2.2.2.2.2.2.2.2,gOf none]∧
      h=HS t l gd y.2.1 y.2.2.1 y.2.2.2.1 y.2.2.2.2.1 R6 (R7.1+1,.var [IN x.p,IN x.x,St x.r]) y.2.2.2.2.2.1 (R10.1+1,.var [RD t l gd]) (R11.1+1,.var [IN x.p,IN x.x]) y.2.2.2.2.2.2.1 y.2.2.2.2.2.2.2.1 y.2.2.2.2.2.2.2.2.1 y.2.2.2.2.2.2.2.2.2.1 y.2.2.2.2.2.2.2.2.2.2.1 0) (fun y=>A.length-y.1)
      (0,K,E,n,F,R8,R12,R13,g14,g16,v18,.uu,.uu,.uu) ⟨D6 _,rfl,s5,z5,rfl,rfl⟩ ?_
     rintro⟨k,K',E',b,F',R8,R12,R13,g14,g16,v18,v3,v7,v8⟩ vs h ⟨aD,z,C,D,rfl,rfl⟩ Q5 ai a4 bk;dsimp only at aD z C D;have G:=b4l (st:=(K,E.take n,F)) aA k (by rw[←o];exact aD);rw[←o,←z]at G;obtain⟨a5,a6⟩:=V G;dsimp only at a5 a6;by_cases aj:k<A.length
     . have ak:=wk1 k i9;obtain⟨bl,bm,bn,bo⟩:=aW _ (B7 aj);have p:=a5x (arS t l gd x) (K,E.take n,F) aj;rw[←z]at p;have al:=b1h (cls t A[k].1) (l.drop x.p) (by have:A7 t A[k].1=(cls t A[k].1).length:=rfl;omega);have am:=a9s (cls t A[k].1) (l.drop x.p);obtain⟨c,a7⟩:=p7 (V6 (cls t A[k].1) (l.drop x.p));rw[←a7]at al am;simp only[CL,a1J]at al;have a8:List.take (l.length-x.p) (List.drop x.p (l.map UN))=(l.map UN).drop x.p:=S7 l5;simp[HS,aj,aU,a8];refine m6 al ?_;by_cases H:c=(cls t A[k].1).length
       . have U:fits t l x.p A[k].1:=am.1 H;have bp:=a5l U;have aE:A7 t A[k].1=c:=H.symm;have aF:IntKind.i64.wrap ((x.p:Int)+(c:Int))=((x.p+c:Nat):Int):=I9;obtain⟨q,an⟩:=p7 (x.p+c);rw[←an]at aF;simp[←H,aF];refine a4O rfl rfl ?_;cases hid:gd.idxOf? (A8.mk q A[k].2)with
         |some i=>
          obtain⟨W,Y⟩:=b5S hid;have e:arS t l gd x (K',E'.take b,F') A[k]=(Y0 K' ⟨q,A[k].2,prt t A[k].1⟩,a1n K' (E'.take b) ⟨q,A[k].2,prt t A[k].1⟩,a2O K' F' ⟨q,A[k].2,prt t A[k].1⟩):=by unfold arS;rw[aE,←an,if_pos ⟨U,W⟩];rfl
          rw[e]at p;obtain⟨E2,a9,R132,ba,bb,v182,ws,w1,w2,w3,w4,w5,w6⟩:=b7P t l gd K' E' b F' R6 (R7.1+1,.var [IN x.p,IN x.x,St x.r]) (R8.1+1,.var [IN q,IN A[k].2]) (R10.1+1,.var [RD t l gd]) (R11.1+1,.var [IN x.p,IN x.x]) (R12.1+1,.var [St (prt t A[k].1),CL (cls t A[k].1),IN A[k].2]) R13 g14 g16 v18 0 ⟨q,A[k].2,prt t A[k].1⟩ C D i9 i9 (fun y Z=>(G.opn y Z).1);simp[a5J,hid,Y];refine a4w w5 w6 rfl ?_;simp[HS,ak];exact ai (k+1,Y0 K' ⟨q,A[k].2,prt t A[k].1⟩,E2,a9,a2O K' F' ⟨q,A[k].2,prt t A[k].1⟩,_,_,R132,ba,bb,v182,_,_,_) _ _ s5 ⟨s5,by dsimp only;rw[w1];exact p.symm,w2,w3,rfl,rfl⟩
         |none=>
          have e:arS t l gd x (K',E'.take b,F') A[k]=(K',E'.take b,F'):=by unfold arS;rw[aE,←an,if_neg fun h=>a3a.1 hid h.2]
          rw[e]at p;simp[a5J,hid,ak];exact ai (k+1,K',E',b,F',_,_,R13,g14,g16,v18,_,_,_) _ _ s5 ⟨s5,p.symm,C,D,rfl,rfl⟩
       . have U:¬fits t l x.p A[k].1:=fun h=>H (am.2 h);have e:arS t l gd x (K',E'.take b,F') A[k]=(K',E'.take b,F'):=by
          unfold arS;rw[if_neg fun h=>U h.1]
         rw[e]at p;simp[H,ak];exact ai (k+1,K',E',b,F',R8,_,R13,g14,g16,v18,_,_,_) _ _ s5 ⟨s5,p.symm,C,D,rfl,rfl⟩
     . obtain rfl:k=A.length:=i9;rw[M4]at z;rw[←z]at d af;rw[o]at G;simp;refine a4 _ _ _ ?_;simp;refine a3 none _ _ (by rfl) ?_;simp;exact aP (T,K',E',b,F',_,_,R8,_,_,R12,R13,g14,g16,v18,_,_,_,_) _ _ s5 ⟨d,by dsimp only at af⊢;omega,G.next,C,D,rfl,rfl⟩
section
variable{t:j9}{l:List Nat}{gd:List A8}{u:By}{h:p9}{H:List p9}{b:Nat}
inductive Hd(t:j9)(l:List Nat)(gd:List A8):By→p9→Prop
 |root:A8.mk 0 0∈gd→Hd t l gd [] ⟨0,0,[]⟩
 |step {u:By} {p x:Nat} {a:Nat×Nat}:Hd t l gd u ⟨p,x,[]⟩→a∈G9 t x→fits t l p a.1→A8.mk (p+A7 t a.1) a.2∈gd→Hd t l gd u ⟨p+A7 t a.1,a.2,prt t a.1⟩
 |byte {u:By} {p x:Nat} {b:UInt8} {r:By}:Hd t l gd u ⟨p,x,b::r⟩→Hd t l gd (u++[b]) ⟨p,x,r⟩
theorem Hd.path(j:s8 t)(n:RDs t l gd)(o:Hd t l gd u h):h.s∈gd∧∃q,F6 t start q=some ((j4 t).getD h.x D7)∧C8 t q=l.take h.p∧J8 t q=u++h.r:=by
 induction o with
 |root h=>
  refine⟨h,[],?_,by simp[C8],by simp[J8]⟩;show some start=_;rw[u9,a2D j];rfl
 | @step u p x a _ s v w c=>
  obtain⟨g,q,d,f,i⟩:=c;have k:=(n.snd _ _ g).1;obtain⟨s',m,A,y,B⟩:=a6C k.1 s;have z:=a0g j (a2l k.1) m;refine⟨w,q++[a.1],?_,?_,?_⟩
  . rw[a5E,d];show(T.step t _ a.1).bind _=_;rw[m,y,a2z z];rfl
  . rw[b1c,f];have hd:=b0a v;have e:C8 t [a.1]=cls t a.1:=(by simp[C8,cls]);rw[e,List.take_add,hd];rw[show A7 t a.1=(cls t a.1).length from rfl,List.take_left]
  . rw[b9C,i];simp[J8,prt]
 | @byte u p x b r _ c=>
  obtain⟨g,q,d,f,i⟩:=c;exact⟨g,q,d,f,by rw[i];simp⟩
theorem b2R{t:j9}(a:s8 t):∀(q:List Nat) (s s':State),F6 t s q=some s'→(J8 t q).length≤4*(C8 t q).length
 | [],_,_,_=>by simp[J8]
 |k::q,s,s',h=>by
  obtain⟨s1,b,d⟩:=Y4.1 (show(T.step t s k).bind (fun s'=>F6 t s' q)=some s' from h);have e:=b2R a q s1 s' d;have h1:=a7n a b;have c:=a2s b;have f:C5 t k≤4:=by unfold C5;rw[u9,m7 c];exact(a2w (a.sound _ (B7 c))).p4
  rw[b1F,a3R,a0D];have:((t.rules.getD k default).print).length=C5 t k:=rfl;omega
theorem Hd.len(a:s8 t)(b:RDs t l gd)(c:Hd t l gd u h):u.length+h.r.length≤4*l.length:=by obtain⟨_,q,d,e,f⟩:=c.path a b;have h1:=b2R a q _ _ d;rw[f,e,a0D,a1W]at h1;omega
def T8(t:j9)(l:List Nat)(x:By):Prop:=∃q a,F6 t start q=some a∧C0 t a=true∧C8 t q=l∧J8 t q=x
theorem Hd.bytes{t:j9}{l:List Nat}{gd:List A8}{p x:Nat}:∀{r u:By},Hd t l gd u ⟨p,x,r⟩→Hd t l gd (u++r) ⟨p,x,[]⟩
 | [],u,h=>by rw[a1u];exact h
 |b::r,u,h=>by
  have:=Hd.bytes (Hd.byte h)
  grind
theorem T8.hd{t:j9}(d:s8 t){l:List Nat}{gd:List A8}(b:RDs t l gd):∀(q:List Nat) (u:By) (p x:Nat) (a:State),Hd t l gd u ⟨p,x,[]⟩→F6 t ((j4 t).getD x D7) q=some a→C0 t a=true→C8 t q=l.drop p→∃y,Hd t l gd (u++J8 t q) ⟨l.length,y,[]⟩∧C0 t ((j4 t).getD y D7)=true
 | [],u,p,x,a,h,h1,c,f=>by
  have e:=(b.snd _ _ (h.path d b).1).1;obtain rfl:=a0c h1;have:(l.drop p).length=0:=by rw[←f];rfl
  rw[a4H]at this;have hp:p=l.length:=by have:=e.2.1;simp only at this;omega
  refine⟨x,?_,c⟩;rw[←hp];simpa[J8]using h
 |k::q,u,p,x,a,h,h1,c,f=>by
  have i:=(h.path d b).1;have e:=(b.snd _ _ i).1;obtain⟨s1,j,g⟩:=Y4.1 (show(T.step t _ k).bind (fun s'=>F6 t s' q)=some a from h1);have hd:l.drop p=cls t k++C8 t q:=by rw[←f];rfl
  obtain⟨f1,f2⟩:=b2F hd;have m:=a0g d (a2l e.1) j;have n:Live t s1:=⟨q,a,g,c⟩
  have hm:=b0q e.1 j n;have o:Good t l (p+A7 t k) (P4 t s1):=⟨q,a,by rw[a2z m];exact g,c,f2.symm⟩
  have r:=b.next p x i _ hm f1 o;obtain⟨y,s,v⟩:=T8.hd d b q (u++prt t k) (p+A7 t k) (P4 t s1) a (Hd.bytes (Hd.step h hm f1 r)) (by rw[a2z m];exact g) c f2.symm;refine⟨y,?_,v⟩;rw[a3R,←a3t];exact s
theorem a9S(d:s8 t)(f:RDs t l gd)(x:By):T8 t l x↔∃y,Hd t l gd x ⟨l.length,y,[]⟩∧C0 t ((j4 t).getD y D7)=true:=by
 constructor
 . rintro⟨q,g,a,b,c,k⟩;have e:(j4 t).getD 0 D7=start:=(by rw[u9,a2D d];rfl);have h:Good t l 0 0:=⟨q,g,by rw[e];exact a,b,by simpa using c⟩
   have:=T8.hd d f q [] 0 0 g (.root (f.root h)) (by rw[e];exact a) b (by simpa using c)
   grind
 . rintro⟨y,i,j⟩;obtain⟨_,q,a,b,c⟩:=i.path d f;exact⟨q,_,a,j,by simpa using b,by simpa using c⟩
def P7(H:List p9)(b:Nat):List p9:=H.filterMap fun h=>match h.r with
 | []=>none
 |c::r=>if c.toNat=b then some ⟨h.p,h.x,r⟩else none
def isF(H:List p9)(b:Nat):Bool:=H.any fun h=>match h.r with
 | []=>false
 |c::_=>decide (c.toNat=b)
def T7(H:List p9)(nx:Nat):List Nat:=(List.range' nx (256-nx)).filter (isF H)
def FrO(t:j9)(l:List Nat)(gd:List A8)(u:By)(H:List p9):Prop:=∀h,h∈H↔Hd t l gd u h∧h.r≠ []
theorem a6s:isF H b=true↔∃h∈H,∃c r,h.r=c::r∧c.toNat=b:=by
 unfold isF
 grind
theorem c1l:h∈P7 H b↔∃c:UInt8,c.toNat=b∧p9.mk h.p h.x (c::h.r)∈H:=by
 unfold P7;rw[a9D];constructor
 . rintro⟨y,d,e⟩;obtain⟨p,x,r⟩:=y
   grind
 . rintro⟨c,h1,a⟩;exact⟨_,a,by simp[h1]⟩
theorem Sp.behind(j:FrO t l gd u H){c:UInt8}(k:c.toNat=b):Sp t l gd (P7 H b) h↔Hd t l gd (u++[c]) h:=by
 constructor
 . intro hs
   induction hs with
   | @base h h1 a=>
    obtain⟨c',e,f⟩:=c1l.1 h1;have:c'=c:=by apply a6N.1;rw[e,k]
    subst this;exact .byte ((j _).1 f).1
   |step _ a f g d=>exact .step d a f g
 . intro hd;generalize i:u++[c]=v at hd
   induction hd with
   |root=>simp at i
   |step _ a f g d=>exact .step (d i) a f g
   | @byte m p x n r h1 d=>
    obtain⟨rfl,e⟩:=List.append_inj' i rfl;simp only[List.cons.injEq,and_true]at e;subst e;have hm:=(j ⟨p,x,c::r⟩).2 ⟨h1,l5⟩;refine .base (c1l.2 ⟨c,k,hm⟩) ?_;have:∀{u:By} {h:p9},Hd t l gd u h→h.s∈gd:=fun h=>by
     induction h with
     |root h=>exact h
     |step _ _ _ h _=>exact h
     |byte _ d=>exact d
    have a:A8.mk p x∈gd:=this (h:=⟨p,x,c::r⟩) h1;exact a
theorem Sp.root{t:j9}{l:List Nat}{gd:List A8}{h:p9}:Sp t l gd [⟨0,0,[]⟩] h↔Hd t l gd [] h:=by
 constructor
 . intro hs
   induction hs with
   |base h1 a=>
    simp only[H5]at h1;subst h1;exact .root a
   |step _ a b c d=>exact .step d a b c
 . intro hd;generalize e:([]:By)=v at hd
   induction hd with
   |root h=>exact .base l5 h
   |step _ a b c d=>exact .step (d e) a b c
   |byte=>simp at e
theorem FrO.next(f:s8 t)(g:RDs t l gd)(a:FrO t l gd u H){c:UInt8}(d:c.toNat=b):FrO t l gd (u++[c]) (Z5 t l gd (P7 H b)).1.2.2∧((Z5 t l gd (P7 H b)).2=true↔T8 t l (u++[c])):=by
 have hs:=a8N f g (P7 H b);refine⟨fun h=>?_,?_⟩
 . rw[hs.mem,Sp.behind a d]
 . rw[hs.fin,a9S f g];constructor
   . rintro⟨x,h1,e⟩;exact⟨x,(Sp.behind a d).1 h1,e⟩
   . rintro⟨x,h1,e⟩;exact⟨x,(Sp.behind a d).2 h1,e⟩
theorem FrO.first(b:s8 t)(c:RDs t l gd):FrO t l gd [] (Z5 t l gd [⟨0,0,[]⟩]).1.2.2∧((Z5 t l gd [⟨0,0,[]⟩]).2=true↔T8 t l []):=by
 have hs:=a8N b c [⟨0,0,[]⟩];refine⟨fun h=>?_,?_⟩
 . rw[hs.mem,Sp.root]
 . rw[hs.fin,a9S b c];constructor
   . rintro⟨x,h1,a⟩;exact⟨x,Sp.root.1 h1,a⟩
   . rintro⟨x,h1,a⟩;exact⟨x,Sp.root.2 h1,a⟩
end
section
variable{H:List p9}{nx b:Nat}
theorem c9q(h:∀b,nx≤b→isF H b=false):T7 H nx=[]:=by
 unfold T7;rw[List.filter_eq_nil_iff]
 grind
theorem b6Z(h:nx<256):T7 H nx=if isF H nx then nx::T7 H (nx+1)else T7 H (nx+1):=by unfold T7;rw[show 256-nx=(256-(nx+1))+1 by omega,List.range'_succ,List.filter_cons]
theorem c0I{H:List p9}{b:Nat}(hb:b<256)(c:isF H b=true):∀(k nx:Nat),nx+k=b→(∀a,nx≤a→a<b→isF H a=false)→T7 H nx=b::T7 H (b+1)
 |0,nx,h,_=>by
  obtain rfl:nx=b:=i9;rw[b6Z hb,if_pos c]
 |k+1,nx,h,d=>by have h1:isF H nx=false:=d nx (m9 _) i9;rw[b6Z i9,h1];exact c0I hb c k (nx+1) i9 fun a f e=>d a i9 e
theorem b6E:b∈T7 H nx↔nx≤b∧b<256∧isF H b=true:=by
 unfold T7
 grind
def b1r(H:List p9)(nx:Nat)(m:Int):Prop:=(m= -1∧∀h∈H,∀c r,h.r=c::r→c.toNat<nx)∨∃b:Nat,m=b∧nx≤b∧isF H b=true∧∀h∈H,∀c r,h.r=c::r→nx≤c.toNat→b≤c.toNat
theorem b1r.T7{H:List p9}{nx:Nat}{m:Int}(h:b1r H nx m):(m= -1∧T7 H nx=[])∨∃b:Nat,m=b∧nx≤b∧b<256∧isF H b=true∧T7 H nx=b::T.T7 H (b+1):=by
 rcases h with⟨h1,d⟩|⟨b,h1,d,a,e⟩
 . refine .inl ⟨h1,c9q fun b hb=>?_⟩;cases f:isF H b with
   |false=>rfl
   |true=>
    obtain⟨h,a,c,r,e,g⟩:=a6s.1 f;have:=d h a c r e;omega
 . have hb:b<256:=by
    obtain⟨h,_,c,r,_,g⟩:=a6s.1 a;have:=c.toNat_lt;omega
   refine .inr ⟨b,h1,d,hb,a,c0I hb a (b-nx) nx i9 fun i g1 g2=>?_⟩;cases f:isF H i with
   |false=>rfl
   |true=>
    obtain⟨h,g,c,r,j,k⟩:=a6s.1 f;have:=e h g c r j i9;omega
section
variable(t:j9)(l:List Nat)(gd:List A8)
noncomputable abbrev nxH(H:List p9)(b:Nat):List p9:=(Z5 t l gd (P7 H b)).1.2.2
noncomputable abbrev nxE(H:List p9)(b:Nat):Bool:=(Z5 t l gd (P7 H b)).2
noncomputable def en:Nat→List p9→By→List By
 |0,_,_=>[]
 |d+1,H,u=>(T7 H 0).flatMap fun b=>(if nxE t l gd H b then [u++[UInt8.ofNat b]]else [])++en d (nxH t l gd H b) (u++[UInt8.ofNat b])
noncomputable def Z2:Nat→List p9→Nat
 |0,_=>1
 |d+1,H=>1+((T7 H 0).map fun b=>1+Z2 d (nxH t l gd H b)).sum
noncomputable def b2q(d:Nat)(H:List p9)(u:By)(b:Nat):List By:=(if nxE t l gd H b then [u++[UInt8.ofNat b]]else [])++en t l gd d (nxH t l gd H b) (u++[UInt8.ofNat b])
noncomputable def W9:Nat→List (List p9×Nat)→By→List By
 |_,[],_=>[]
 |d,(H,nx)::S,u=>(T7 H nx).flatMap (b2q t l gd (d-1) H u)++W9 (d+1) S u.dropLast
noncomputable def a0h:Nat→List (List p9×Nat)→Nat
 |_,[]=>0
 |d,(H,nx)::S=>1+((T7 H nx).map fun b=>1+Z2 t l gd (d-1) (nxH t l gd H b)).sum+a0h (d+1) S
variable{t l gd}
theorem b5A{d:Nat}{S:List (List p9×Nat)}{u:By}(h:T7 H nx=[]):W9 t l gd d ((H,nx)::S) u=W9 t l gd (d+1) S u.dropLast∧a0h t l gd (d+1) S<a0h t l gd d ((H,nx)::S):=by
 refine⟨?_,?_⟩
 . rw[W9,h];rfl
 . rw[a0h,h];simp
theorem b5P{d:Nat}{S:List (List p9×Nat)}{u:By}(h:T7 H nx=b::T7 H (b+1))(hd:1≤d∨T7 (nxH t l gd H b) 0=[]):
 W9 t l gd (d+1) ((H,nx)::S) u=(if nxE t l gd H b then [u++[UInt8.ofNat b]]else [])++W9 t l gd d ((nxH t l gd H b,0)::(H,b+1)::S) (u++[UInt8.ofNat b])∧
 a0h t l gd d ((nxH t l gd H b,0)::(H,b+1)::S)<a0h t l gd (d+1) ((H,nx)::S):=by
 have c:en t l gd d (nxH t l gd H b) (u++[UInt8.ofNat b])=(T7 (nxH t l gd H b) 0).flatMap (b2q t l gd (d-1) (nxH t l gd H b) (u++[UInt8.ofNat b])):=by
  cases d with
  |zero=>
   rcases hd with hd|hd
   . omega
   . rw[hd];rfl
  |succ d=>rfl
 have e:Z2 t l gd d (nxH t l gd H b)=1+((T7 (nxH t l gd H b) 0).map fun a=>1+Z2 t l gd (d-1) (nxH t l gd (nxH t l gd H b) a)).sum:=by
  cases d with
  |zero=>
   rcases hd with hd|hd
   . omega
   . rw[hd];rfl
  |succ d=>rfl
 refine⟨?_,?_⟩
 . rw[W9,h,a2Z,W9,W9,List.dropLast_concat];rw[show d+1-1=d from rfl]
   conv=>lhs;arg 1;arg 1;unfold b2q
   rw[c];simp only[a3t]
 . have f:a0h t l gd (d+1) ((H,nx)::S)=1+((T7 H nx).map fun b=>1+Z2 t l gd d (nxH t l gd H b)).sum+a0h t l gd (d+1+1) S:=(by rw[a0h];rfl);have a2:a0h t l gd (d+1) ((H,b+1)::S)=1+((T7 H (b+1)).map fun b=>1+Z2 t l gd d (nxH t l gd H b)).sum+a0h t l gd (d+1+1) S:=(by rw[a0h];rfl);have a3:a0h t l gd d ((nxH t l gd H b,0)::(H,b+1)::S)=1+((T7 (nxH t l gd H b) 0).map fun a=>1+Z2 t l gd (d-1) (nxH t l gd (nxH t l gd H b) a)).sum+a0h t l gd (d+1) ((H,b+1)::S):=(by rw[a0h]);rw[f,a3,a2,h,a0N,List.sum_cons,e];omega
end
theorem Hd.ahead{t:j9}{l:List Nat}{gd:List A8}{v:By}{h:p9}(hd:Hd t l gd v h):∀(u:By) (c:UInt8) (r:By),v=u++c::r→∃p x d,Hd t l gd u ⟨p,x,c::d⟩:=by
 induction hd with
 |root=>intro u c r h;simp at h
 |step _ _ _ _ a=>exact a
 | @byte v p x b d h1 a=>
  intro u c r h;rcases List.eq_nil_or_concat r with rfl|⟨r2,g,rfl⟩
  . obtain⟨rfl,e⟩:=List.append_inj' h rfl
    grind
  . rw[List.concat_eq_append,←a7L,←a3t]at h;obtain⟨f,_⟩:=List.append_inj' h rfl;exact a u c r2 f
theorem ofNat_toNat(h:b<256):(UInt8.ofNat b).toNat=b:=by simp[UInt8.toNat_ofNat'];omega
theorem b2A{t:j9}(e:s8 t){l:List Nat}{gd:List A8}(f:RDs t l gd):∀(d:Nat) (H:List p9) (u x:By),FrO t l gd u H→u.length+d=4*l.length+1→(x∈en t l gd d H u↔T8 t l x∧∃c r,x=u++c::r)
 |0,H,u,x,g,hd=>by
  constructor
  . intro h;cases h
  . rintro⟨h1,c,r,rfl⟩;obtain⟨y,a,_⟩:=(a9S e f _).1 h1;have:=a.len e f;simp at this;omega
 |d+1,H,u,x,g,hd=>by
  unfold en;rw[a4a];constructor
  . rintro⟨b,h1,a⟩;obtain⟨_,hb,m⟩:=b6E.1 h1;obtain⟨f1,f2⟩:=g.next e f (ofNat_toNat hb);rcases I4.1 a with a|a
    . grind
    . obtain⟨g1,c,r,rfl⟩:=(b2A e f d _ _ x f1 I2).1 a
      grind
  . rintro⟨h1,c,r,rfl⟩;obtain⟨y,a,_⟩:=(a9S e f _).1 h1;obtain⟨p,n,i,j⟩:=a.ahead u c r rfl;have hm:=(g _).2 ⟨j,l5⟩;have hb:c.toNat<256:=c.toNat_lt;have k:UInt8.ofNat c.toNat=c:=l5;obtain⟨f1,f2⟩:=g.next e f (b:=c.toNat) (c:=c) rfl;refine⟨c.toNat,b6E.2 ⟨D6 _,hb,a6s.2 ⟨_,hm,c,i,rfl,rfl⟩⟩,?_⟩;rw[k];cases r with
    |nil=>
     refine a4G _ ?_;rw[if_pos (f2.2 h1)];simp
    |cons c2 r=>
     refine a7N _ ((b2A e f d _ _ _ f1 I2).2 ⟨h1,c2,r,l5⟩)
noncomputable def a6c(t:j9)(l:List Nat)(gd:List A8):List By:=(if(Z5 t l gd [⟨0,0,[]⟩]).2 then [[]]else [])++en t l gd (4*l.length+1) (Z5 t l gd [⟨0,0,[]⟩]).1.2.2 []
theorem c6h{t:j9}(a:s8 t){l:List Nat}{gd:List A8}(b:RDs t l gd)(x:By):x∈a6c t l gd↔T8 t l x:=by
 obtain⟨f1,f2⟩:=FrO.first a b;unfold a6c;rw[I4,b2A a b _ _ _ _ f1 l5];constructor
 . grind
 . intro h;cases x with
   |nil=>left;rw[if_pos (f2.2 h)];simp
   |cons c r=>right;exact⟨h,c,r,rfl⟩
end
end Go.Proofs.YtbhfgadikmfjdaaGreat.T
